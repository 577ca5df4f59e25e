/- The lights alone (functions 70, 117, 89, 46, 53), after the kit's print of them, so that a claim need not carry the whole texts. No condition. -/
import Derived.Test.YtdpchfifaidamaaV0
namespace Go.Proofs.Ytdpchfifaidamaa.U
open Go.RowKit Go.Proofs.YtdpchfifaidamaaW.PrintWords Go.Proofs.YtdpchfifaidamaaW.PrintLast Go.Proofs.Ytdpchfifaidamaa.PLedgerTells
set_option linter.unusedVariables false
set_option linter.unusedSimpArgs false

/-! ### triremeref05_Light: function 70 -/
def triremeref05_Light.l0 : Nat → List (S83) → Int → Option (Bool)
  | 0, _, _ => none
  | k + 1, x0, x3 => if x3 < (x0.length : Int) then (if 0 ≤ x3 then (if (((rd_T83 x0 x3).f0).size : Int) > 300 then (some false) else (if (((rd_T83 x0 x3).f1).size : Int) > 300 then (some false) else (triremeref05_Light.l0 k x0 (wrap64 (x3 + 1))))) else (none)) else (some true)
def triremeref05_Light.f (k : Nat) (l0 : List (S83)) : Option (Bool) := if (l0.length : Int) > 40 then (some false) else (triremeref05_Light.l0 k l0 0)
theorem triremeref05_Light.mono_l : ∀ k, (∀ y0 y1, LeO (triremeref05_Light.l0 k y0 y1) (triremeref05_Light.l0 (k + 1) y0 y1))
  | 0 => fun _ _ r h => by simp [triremeref05_Light.l0] at h
  | k + 1 => by
    have ih0 := triremeref05_Light.mono_l k
    · intro y0 y1
      unfold triremeref05_Light.l0
      repeat' first
      | (with_reducible exact ih0 _ _)
      | (with_reducible exact LeO.refl _)
      | (with_reducible exact LeO.none _)
      | (with_reducible refine LeO.ite ?_ ?_)
      | (with_reducible refine LeO.bind ?_ (fun _ => ?_))
      | exact ih0 _ _
      | exact LeO.none _
      | refine LeO.ite ?_ ?_
      | refine LeO.bind ?_ (fun _ => ?_)
theorem triremeref05_Light.mono : ∀ a0 k, LeO (triremeref05_Light.f k a0) (triremeref05_Light.f (k + 1) a0) := by
  intro a0 k
  have ih0 := triremeref05_Light.mono_l k
  unfold triremeref05_Light.f
  repeat' first
      | (with_reducible exact ih0 _ _)
      | (with_reducible exact LeO.refl _)
      | (with_reducible exact LeO.none _)
      | (with_reducible refine LeO.ite ?_ ?_)
      | (with_reducible refine LeO.bind ?_ (fun _ => ?_))
      | exact ih0 _ _
      | exact LeO.none _
      | refine LeO.ite ?_ ?_
      | refine LeO.bind ?_ (fun _ => ?_)
set_option maxHeartbeats 8000000 in
set_option maxRecDepth 100000 in
theorem triremeref05_Light.calls (k : Nat) (A0 : Option Addr) (c0 : Nat) (l0 : List (S83)) (r : Bool) (w : World) (hr0 : Kd.C k83 w A0 l0.length l0) (hc0 : l0.length ≤ c0) (h : triremeref05_Light.f k l0 = some r) :
    Calls Try.prog 70 #[.slice A0 l0.length c0] w fun e w' => e = .returned (.bool r) ∧ Drawn0 w w' := by
  have HR0 := Aside0.mk hr0
  have HC0 := Aside0.mk hc0
  clear hr0 hc0
  have H : (if (l0.length : Int) > 40 then (some false) else (triremeref05_Light.l0 k l0 0)) = some r := h
  clear h
  by_cases c2 : (l0.length : Int) > 40
  · rw [if_pos c2] at H
    have c2b0 : decide (40 < (l0.length : Int)) = true := decide_eq_true c2
    have c2b1 : decide (40 < l0.length) = true := decide_eq_true (by omega)
    clear c2
    obtain rfl := Option.some.inj H
    go_enter Try.func70, Try.ntmps70
    go_wp2
    go_ret
    exact ⟨by first | rfl | (simp; done) | (simp [*]; done), by repeat (first | exact Drawn0.refl _ | apply Drawn0.step)⟩
  · rw [if_neg c2] at H
    have c2b0 : decide (40 < (l0.length : Int)) = false := decide_eq_false c2
    have c2b1 : decide (40 < l0.length) = false := decide_eq_false (by omega)
    clear c2
    have H' := Aside0.mk H
    clear H
    go_enter Try.func70, Try.ntmps70
    go_wp2
    go_loopg [3] k (fun kq v3 w' => ∃ (x3_1 : Int), v3 = .int .i64 x3_1 ∧ Aside0 (triremeref05_Light.l0 kq l0 x3_1 = some r) ∧ Aside0 (kq ≤ k) ∧ Drawn0 w w')
    case atStart => exact ⟨(0), (by first | rfl | (simp; done) | (simp [*]; done)), H', ⟨Nat.le_refl _⟩, by repeat (first | exact Drawn0.refl _ | apply Drawn0.step)⟩
    case round =>
      clear H'
      try clear c2
      try clear c2b0
      try clear c2b1
      try clear p2
      obtain ⟨x3_1, rfl, HA, HK1, ⟨m1, rfl⟩⟩ := hrel
      cases gk with
      | zero => exact absurd HA.out (by simp [triremeref05_Light.l0])
      | succ k1 =>
        have H := HA.out
        clear HA
        simp only [triremeref05_Light.l0] at H
        by_cases c3 : x3_1 < (l0.length : Int)
        · rw [if_pos c3] at H
          have c3b0 : decide (x3_1 < (l0.length : Int)) = true := decide_eq_true c3
          clear c3
          by_cases c4 : 0 ≤ x3_1
          · rw [if_pos c4] at H
            have c4b0 : decide (0 ≤ x3_1) = true := decide_eq_true c4
            clear c4
            by_cases c5 : (((rd_T83 l0 x3_1).f0).size : Int) > 300
            · rw [if_pos c5] at H
              have c5b0 : decide (300 < (((rd_T83 l0 x3_1).f0).size : Int)) = true := decide_eq_true c5
              have c5b1 : decide (300 < ((rd_T83 l0 x3_1).f0).size) = true := decide_eq_true (by omega)
              clear c5
              obtain rfl := Option.some.inj H
              have p101 : 0 ≤ (x3_1 : Int) := of_decide_eq_true (by first | (with_reducible assumption) | assumption)
              have q101 : x3_1 < (l0.length : Int) := of_decide_eq_true (by first | (with_reducible assumption) | assumption)
              obtain ⟨ad101, e101, hx101_0, hx101_1⟩ := at_T83 HR0.out x3_1 p101 q101
              cases e101
              replace p101 := eq_true p101
              replace q101 := eq_true q101
              go_wp2
              go_ret
              exact ⟨by first | rfl | (simp; done) | (simp [*]; done), by repeat (first | exact Drawn0.refl _ | apply Drawn0.step)⟩
            · rw [if_neg c5] at H
              have c5b0 : decide (300 < (((rd_T83 l0 x3_1).f0).size : Int)) = false := decide_eq_false c5
              have c5b1 : decide (300 < ((rd_T83 l0 x3_1).f0).size) = false := decide_eq_false (by omega)
              clear c5
              by_cases c6 : (((rd_T83 l0 x3_1).f1).size : Int) > 300
              · rw [if_pos c6] at H
                have c6b0 : decide (300 < (((rd_T83 l0 x3_1).f1).size : Int)) = true := decide_eq_true c6
                have c6b1 : decide (300 < ((rd_T83 l0 x3_1).f1).size) = true := decide_eq_true (by omega)
                clear c6
                obtain rfl := Option.some.inj H
                have p101 : 0 ≤ (x3_1 : Int) := of_decide_eq_true (by first | (with_reducible assumption) | assumption)
                have q101 : x3_1 < (l0.length : Int) := of_decide_eq_true (by first | (with_reducible assumption) | assumption)
                obtain ⟨ad101, e101, hx101_0, hx101_1⟩ := at_T83 HR0.out x3_1 p101 q101
                cases e101
                replace p101 := eq_true p101
                replace q101 := eq_true q101
                have p102 : 0 ≤ (x3_1 : Int) := of_decide_eq_true (by first | (with_reducible assumption) | assumption)
                have q102 : x3_1 < (l0.length : Int) := of_decide_eq_true (by first | (with_reducible assumption) | assumption)
                obtain ⟨ad102, e102, hx102_0, hx102_1⟩ := at_T83 HR0.out x3_1 p102 q102
                obtain rfl : ad101 = ad102 := (by injection e102)
                replace p102 := eq_true p102
                replace q102 := eq_true q102
                go_wp2
                go_ret
                exact ⟨by first | rfl | (simp; done) | (simp [*]; done), by repeat (first | exact Drawn0.refl _ | apply Drawn0.step)⟩
              · rw [if_neg c6] at H
                have c6b0 : decide (300 < (((rd_T83 l0 x3_1).f1).size : Int)) = false := decide_eq_false c6
                have c6b1 : decide (300 < ((rd_T83 l0 x3_1).f1).size) = false := decide_eq_false (by omega)
                clear c6
                have H' := Aside0.mk H
                clear H
                have p101 : 0 ≤ (x3_1 : Int) := of_decide_eq_true (by first | (with_reducible assumption) | assumption)
                have q101 : x3_1 < (l0.length : Int) := of_decide_eq_true (by first | (with_reducible assumption) | assumption)
                obtain ⟨ad101, e101, hx101_0, hx101_1⟩ := at_T83 HR0.out x3_1 p101 q101
                cases e101
                replace p101 := eq_true p101
                replace q101 := eq_true q101
                have p102 : 0 ≤ (x3_1 : Int) := of_decide_eq_true (by first | (with_reducible assumption) | assumption)
                have q102 : x3_1 < (l0.length : Int) := of_decide_eq_true (by first | (with_reducible assumption) | assumption)
                obtain ⟨ad102, e102, hx102_0, hx102_1⟩ := at_T83 HR0.out x3_1 p102 q102
                obtain rfl : ad101 = ad102 := (by injection e102)
                replace p102 := eq_true p102
                replace q102 := eq_true q102
                go_wp2
                go_roundg k1
                case measure => have := HK1.out; omega
                case rel => exact ⟨(wrap64 (x3_1 + 1)), (by first | rfl | (simp; done) | (simp [*]; done)), H', ⟨by have := HK1.out; omega⟩, by repeat (first | exact Drawn0.refl _ | apply Drawn0.step)⟩
          · rw [if_neg c4] at H
            exact absurd H (by simp)
        · rw [if_neg c3] at H
          have c3b0 : decide (x3_1 < (l0.length : Int)) = false := decide_eq_false c3
          clear c3
          obtain rfl := Option.some.inj H
          go_wp2
          go_ret
          exact ⟨by first | rfl | (simp; done) | (simp [*]; done), by repeat (first | exact Drawn0.refl _ | apply Drawn0.step)⟩

/-! ### triremeref06_Light: function 117 -/
mutual
def triremeref06_Light.j0 : Nat → List (S169) → List (S157) → Bool → Option (Bool)
  | 0, _, _, _ => none
  | k + 1, x0, x1, x14 => if x14 = true then (some false) else (triremeref06_Light.l0 k x0 x1 0)
def triremeref06_Light.l0 : Nat → List (S169) → List (S157) → Int → Option (Bool)
  | 0, _, _, _ => none
  | k + 1, x0, x1, x5 => if x5 < (x0.length : Int) then (if 0 ≤ x5 then (if (((rd_T169 x0 x5).f0).size : Int) > 300 then (some false) else (if (((rd_T169 x0 x5).f1).size : Int) > 300 then (some false) else (triremeref06_Light.l0 k x0 x1 (wrap64 (x5 + 1))))) else (none)) else (triremeref06_Light.l1 k x1 0)
def triremeref06_Light.l1 : Nat → List (S157) → Int → Option (Bool)
  | 0, _, _ => none
  | k + 1, x1, x6 => if x6 < (x1.length : Int) then (if 0 ≤ x6 then (if (((rd_T157 x1 x6).f0).size : Int) > 300 then (some false) else (if (((rd_T157 x1 x6).f1).size : Int) > 300 then (some false) else (triremeref06_Light.l1 k x1 (wrap64 (x6 + 1))))) else (none)) else (some true)
end
def triremeref06_Light.f (k : Nat) (l0 : List (S169)) (l1 : List (S157)) : Option (Bool) := if (l0.length : Int) > 40 then (triremeref06_Light.j0 k l0 l1 true) else (triremeref06_Light.j0 k l0 l1 (decide ((l1.length : Int) > 40)))
theorem triremeref06_Light.mono_l : ∀ k, (∀ y0 y1 y2, LeO (triremeref06_Light.j0 k y0 y1 y2) (triremeref06_Light.j0 (k + 1) y0 y1 y2)) ∧ (∀ y0 y1 y2, LeO (triremeref06_Light.l0 k y0 y1 y2) (triremeref06_Light.l0 (k + 1) y0 y1 y2)) ∧ (∀ y0 y1, LeO (triremeref06_Light.l1 k y0 y1) (triremeref06_Light.l1 (k + 1) y0 y1))
  | 0 => ⟨fun _ _ _ r h => by simp [triremeref06_Light.j0] at h, fun _ _ _ r h => by simp [triremeref06_Light.l0] at h, fun _ _ r h => by simp [triremeref06_Light.l1] at h⟩
  | k + 1 => by
    obtain ⟨ih0, ih1, ih2⟩ := triremeref06_Light.mono_l k
    refine ⟨?_, ?_, ?_⟩
    · intro y0 y1 y2
      unfold triremeref06_Light.j0
      repeat' first
      | (with_reducible exact ih0 _ _ _)
      | (with_reducible exact ih1 _ _ _)
      | (with_reducible exact ih2 _ _)
      | (with_reducible exact LeO.refl _)
      | (with_reducible exact LeO.none _)
      | (with_reducible refine LeO.ite ?_ ?_)
      | (with_reducible refine LeO.bind ?_ (fun _ => ?_))
      | exact ih0 _ _ _
      | exact ih1 _ _ _
      | exact ih2 _ _
      | exact LeO.none _
      | refine LeO.ite ?_ ?_
      | refine LeO.bind ?_ (fun _ => ?_)
    · intro y0 y1 y2
      unfold triremeref06_Light.l0
      repeat' first
      | (with_reducible exact ih0 _ _ _)
      | (with_reducible exact ih1 _ _ _)
      | (with_reducible exact ih2 _ _)
      | (with_reducible exact LeO.refl _)
      | (with_reducible exact LeO.none _)
      | (with_reducible refine LeO.ite ?_ ?_)
      | (with_reducible refine LeO.bind ?_ (fun _ => ?_))
      | exact ih0 _ _ _
      | exact ih1 _ _ _
      | exact ih2 _ _
      | exact LeO.none _
      | refine LeO.ite ?_ ?_
      | refine LeO.bind ?_ (fun _ => ?_)
    · intro y0 y1
      unfold triremeref06_Light.l1
      repeat' first
      | (with_reducible exact ih0 _ _ _)
      | (with_reducible exact ih1 _ _ _)
      | (with_reducible exact ih2 _ _)
      | (with_reducible exact LeO.refl _)
      | (with_reducible exact LeO.none _)
      | (with_reducible refine LeO.ite ?_ ?_)
      | (with_reducible refine LeO.bind ?_ (fun _ => ?_))
      | exact ih0 _ _ _
      | exact ih1 _ _ _
      | exact ih2 _ _
      | exact LeO.none _
      | refine LeO.ite ?_ ?_
      | refine LeO.bind ?_ (fun _ => ?_)
theorem triremeref06_Light.mono : ∀ a0 a1 k, LeO (triremeref06_Light.f k a0 a1) (triremeref06_Light.f (k + 1) a0 a1) := by
  intro a0 a1 k
  obtain ⟨ih0, ih1, ih2⟩ := triremeref06_Light.mono_l k
  unfold triremeref06_Light.f
  repeat' first
      | (with_reducible exact ih0 _ _ _)
      | (with_reducible exact ih1 _ _ _)
      | (with_reducible exact ih2 _ _)
      | (with_reducible exact LeO.refl _)
      | (with_reducible exact LeO.none _)
      | (with_reducible refine LeO.ite ?_ ?_)
      | (with_reducible refine LeO.bind ?_ (fun _ => ?_))
      | exact ih0 _ _ _
      | exact ih1 _ _ _
      | exact ih2 _ _
      | exact LeO.none _
      | refine LeO.ite ?_ ?_
      | refine LeO.bind ?_ (fun _ => ?_)
set_option maxHeartbeats 8000000 in
set_option maxRecDepth 100000 in
theorem triremeref06_Light.calls (k : Nat) (A0 : Option Addr) (c0 : Nat) (l0 : List (S169)) (A1 : Option Addr) (c1 : Nat) (l1 : List (S157)) (r : Bool) (w : World) (hr0 : Kd.C k169 w A0 l0.length l0) (hc0 : l0.length ≤ c0) (hr1 : Kd.C k157 w A1 l1.length l1) (hc1 : l1.length ≤ c1) (h : triremeref06_Light.f k l0 l1 = some r) :
    Calls Try.prog 117 #[.slice A0 l0.length c0, .slice A1 l1.length c1] w fun e w' => e = .returned (.bool r) ∧ Drawn0 w w' := by
  have HR0 := Aside0.mk hr0
  have HC0 := Aside0.mk hc0
  clear hr0 hc0
  have HR1 := Aside0.mk hr1
  have HC1 := Aside0.mk hc1
  clear hr1 hc1
  have H : (if (l0.length : Int) > 40 then (triremeref06_Light.j0 k l0 l1 true) else (triremeref06_Light.j0 k l0 l1 (decide ((l1.length : Int) > 40)))) = some r := h
  clear h
  have HC3 := Aside0.mk H
  clear H
  go_enter Try.func117, Try.ntmps117
  go_upto_region 1 with (fail)
  go_cut [14] (fun v14 wc => ∃ (kq : Nat) (x14_2 : Bool), v14 = .bool x14_2 ∧ Aside0 (triremeref06_Light.j0 kq l0 l1 x14_2 = some r) ∧ Aside0 (kq ≤ k) ∧ Drawn0 w wc)
  case first =>
    have H := HC3.out
    clear HC3
    by_cases c4 : (l0.length : Int) > 40
    · rw [if_pos c4] at H
      have c4b0 : decide (40 < (l0.length : Int)) = true := decide_eq_true c4
      have c4b1 : decide (40 < l0.length) = true := decide_eq_true (by omega)
      clear c4
      (first | rw [c4b0] | (simp only [i64_w, i32_w]; rw [c4b0]) | skip)
      have H' := Aside0.mk H
      clear H
      go_wp2
      go_meet
      case rel => exact ⟨_, (true), (by first | rfl | (simp; done) | (simp [*]; done)), H', ⟨by first | omega | exact Nat.le_refl _⟩, by repeat (first | exact Drawn0.refl _ | apply Drawn0.step)⟩
    · rw [if_neg c4] at H
      have c4b0 : decide (40 < (l0.length : Int)) = false := decide_eq_false c4
      have c4b1 : decide (40 < l0.length) = false := decide_eq_false (by omega)
      clear c4
      (first | rw [c4b0] | (simp only [i64_w, i32_w]; rw [c4b0]) | skip)
      have H' := Aside0.mk H
      clear H
      go_wp2
      go_meet
      case rel => exact ⟨_, (decide ((l1.length : Int) > 40)), (by first | rfl | (simp; done) | (simp [*]; done)), H', ⟨by first | omega | exact Nat.le_refl _⟩, by repeat (first | exact Drawn0.refl _ | apply Drawn0.step)⟩
  case rest =>
    clear HC3
    try clear c1
    try clear p2
    try clear c4
    try clear c4b0
    try clear c4b1
    obtain ⟨kq, x14_2, rfl, HA, HJ2, ⟨mc2, rfl⟩⟩ := hcut
    cases kq with
    | zero => exact absurd HA.out (by simp [triremeref06_Light.j0])
    | succ kj2 =>
      have H := HA.out
      clear HA
      simp only [triremeref06_Light.j0] at H
      by_cases c5 : x14_2 = true
      · subst c5
        have H1 : (some false) = some r := by rw [if_pos rfl] at H; exact H
        clear H
        have H := H1
        clear H1
        obtain rfl := Option.some.inj H
        go_wp2
        go_ret
        exact ⟨by first | rfl | (simp; done) | (simp [*]; done), by repeat (first | exact Drawn0.refl _ | apply Drawn0.step)⟩
      · replace c5 := Bool.eq_false_iff.mpr c5
        subst c5
        have H1 : (triremeref06_Light.l0 kj2 l0 l1 0) = some r := by rw [if_neg (show ¬ (false = true) by decide)] at H; exact H
        clear H
        have H := H1
        clear H1
        have H' := Aside0.mk H
        clear H
        go_wp2
        go_loopg [5] kj2 (fun kq v5 w' => ∃ (x5_2 : Int), v5 = .int .i64 x5_2 ∧ Aside0 (triremeref06_Light.l0 kq l0 l1 x5_2 = some r) ∧ Aside0 (kq ≤ kj2) ∧ Drawn0 w w')
        case atStart => exact ⟨(0), (by first | rfl | (simp; done) | (simp [*]; done)), H', ⟨Nat.le_refl _⟩, by repeat (first | exact Drawn0.refl _ | apply Drawn0.step)⟩
        case round =>
          clear H'
          try clear c1
          try clear c2
          try clear p2
          try clear c4
          try clear c4b0
          try clear c4b1
          try clear c5
          try clear p2
          obtain ⟨x5_2, rfl, HA, HK2, ⟨m2, rfl⟩⟩ := hrel
          cases gk with
          | zero => exact absurd HA.out (by simp [triremeref06_Light.l0])
          | succ k2 =>
            have H := HA.out
            clear HA
            simp only [triremeref06_Light.l0] at H
            by_cases c6 : x5_2 < (l0.length : Int)
            · rw [if_pos c6] at H
              have c6b0 : decide (x5_2 < (l0.length : Int)) = true := decide_eq_true c6
              clear c6
              by_cases c7 : 0 ≤ x5_2
              · rw [if_pos c7] at H
                have c7b0 : decide (0 ≤ x5_2) = true := decide_eq_true c7
                clear c7
                by_cases c8 : (((rd_T169 l0 x5_2).f0).size : Int) > 300
                · rw [if_pos c8] at H
                  have c8b0 : decide (300 < (((rd_T169 l0 x5_2).f0).size : Int)) = true := decide_eq_true c8
                  have c8b1 : decide (300 < ((rd_T169 l0 x5_2).f0).size) = true := decide_eq_true (by omega)
                  clear c8
                  obtain rfl := Option.some.inj H
                  have p103 : 0 ≤ (x5_2 : Int) := of_decide_eq_true (by first | (with_reducible assumption) | assumption)
                  have q103 : x5_2 < (l0.length : Int) := of_decide_eq_true (by first | (with_reducible assumption) | assumption)
                  obtain ⟨ad103, e103, hx103_0, hx103_1, hx103_2, hx103_3⟩ := at_T169 HR0.out x5_2 p103 q103
                  cases e103
                  replace p103 := eq_true p103
                  replace q103 := eq_true q103
                  go_wp2
                  go_ret
                  exact ⟨by first | rfl | (simp; done) | (simp [*]; done), by repeat (first | exact Drawn0.refl _ | apply Drawn0.step)⟩
                · rw [if_neg c8] at H
                  have c8b0 : decide (300 < (((rd_T169 l0 x5_2).f0).size : Int)) = false := decide_eq_false c8
                  have c8b1 : decide (300 < ((rd_T169 l0 x5_2).f0).size) = false := decide_eq_false (by omega)
                  clear c8
                  by_cases c9 : (((rd_T169 l0 x5_2).f1).size : Int) > 300
                  · rw [if_pos c9] at H
                    have c9b0 : decide (300 < (((rd_T169 l0 x5_2).f1).size : Int)) = true := decide_eq_true c9
                    have c9b1 : decide (300 < ((rd_T169 l0 x5_2).f1).size) = true := decide_eq_true (by omega)
                    clear c9
                    obtain rfl := Option.some.inj H
                    have p103 : 0 ≤ (x5_2 : Int) := of_decide_eq_true (by first | (with_reducible assumption) | assumption)
                    have q103 : x5_2 < (l0.length : Int) := of_decide_eq_true (by first | (with_reducible assumption) | assumption)
                    obtain ⟨ad103, e103, hx103_0, hx103_1, hx103_2, hx103_3⟩ := at_T169 HR0.out x5_2 p103 q103
                    cases e103
                    replace p103 := eq_true p103
                    replace q103 := eq_true q103
                    have p104 : 0 ≤ (x5_2 : Int) := of_decide_eq_true (by first | (with_reducible assumption) | assumption)
                    have q104 : x5_2 < (l0.length : Int) := of_decide_eq_true (by first | (with_reducible assumption) | assumption)
                    obtain ⟨ad104, e104, hx104_0, hx104_1, hx104_2, hx104_3⟩ := at_T169 HR0.out x5_2 p104 q104
                    obtain rfl : ad103 = ad104 := (by injection e104)
                    replace p104 := eq_true p104
                    replace q104 := eq_true q104
                    go_wp2
                    go_ret
                    exact ⟨by first | rfl | (simp; done) | (simp [*]; done), by repeat (first | exact Drawn0.refl _ | apply Drawn0.step)⟩
                  · rw [if_neg c9] at H
                    have c9b0 : decide (300 < (((rd_T169 l0 x5_2).f1).size : Int)) = false := decide_eq_false c9
                    have c9b1 : decide (300 < ((rd_T169 l0 x5_2).f1).size) = false := decide_eq_false (by omega)
                    clear c9
                    have H' := Aside0.mk H
                    clear H
                    have p103 : 0 ≤ (x5_2 : Int) := of_decide_eq_true (by first | (with_reducible assumption) | assumption)
                    have q103 : x5_2 < (l0.length : Int) := of_decide_eq_true (by first | (with_reducible assumption) | assumption)
                    obtain ⟨ad103, e103, hx103_0, hx103_1, hx103_2, hx103_3⟩ := at_T169 HR0.out x5_2 p103 q103
                    cases e103
                    replace p103 := eq_true p103
                    replace q103 := eq_true q103
                    have p104 : 0 ≤ (x5_2 : Int) := of_decide_eq_true (by first | (with_reducible assumption) | assumption)
                    have q104 : x5_2 < (l0.length : Int) := of_decide_eq_true (by first | (with_reducible assumption) | assumption)
                    obtain ⟨ad104, e104, hx104_0, hx104_1, hx104_2, hx104_3⟩ := at_T169 HR0.out x5_2 p104 q104
                    obtain rfl : ad103 = ad104 := (by injection e104)
                    replace p104 := eq_true p104
                    replace q104 := eq_true q104
                    go_wp2
                    go_roundg k2
                    case measure => have := HJ2.out; have := HK2.out; omega
                    case rel => exact ⟨(wrap64 (x5_2 + 1)), (by first | rfl | (simp; done) | (simp [*]; done)), H', ⟨by have := HJ2.out; have := HK2.out; omega⟩, by repeat (first | exact Drawn0.refl _ | apply Drawn0.step)⟩
              · rw [if_neg c7] at H
                exact absurd H (by simp)
            · rw [if_neg c6] at H
              have c6b0 : decide (x5_2 < (l0.length : Int)) = false := decide_eq_false c6
              clear c6
              have H' := Aside0.mk H
              clear H
              go_wp2
              go_loopg [6] k2 (fun kq v6 w' => ∃ (x6_3 : Int), v6 = .int .i64 x6_3 ∧ Aside0 (triremeref06_Light.l1 kq l1 x6_3 = some r) ∧ Aside0 (kq ≤ k2) ∧ Drawn0 w w')
              case atStart => exact ⟨(0), (by first | rfl | (simp; done) | (simp [*]; done)), H', ⟨Nat.le_refl _⟩, by repeat (first | exact Drawn0.refl _ | apply Drawn0.step)⟩
              case round =>
                clear H'
                try clear c1
                try clear p1
                try clear q1
                try clear hx1
                try clear c2
                try clear p2
                try clear c4
                try clear c4b0
                try clear c4b1
                try clear c5
                try clear c6
                try clear c6b0
                try clear p6
                try clear c7
                try clear c7b0
                try clear c8
                try clear c8b0
                try clear c8b1
                try clear c9
                try clear c9b0
                try clear c9b1
                try clear hx103_0
                try clear hx103_1
                try clear hx103_2
                try clear hx103_3
                try clear hx104_0
                try clear hx104_1
                try clear hx104_2
                try clear hx104_3
                try clear p103
                try clear p104
                try clear p2
                try clear q103
                try clear q104
                obtain ⟨x6_3, rfl, HA, HK3, ⟨m3, rfl⟩⟩ := hrel
                cases gk with
                | zero => exact absurd HA.out (by simp [triremeref06_Light.l1])
                | succ k3 =>
                  have H := HA.out
                  clear HA
                  simp only [triremeref06_Light.l1] at H
                  by_cases c10 : x6_3 < (l1.length : Int)
                  · rw [if_pos c10] at H
                    have c10b0 : decide (x6_3 < (l1.length : Int)) = true := decide_eq_true c10
                    clear c10
                    by_cases c11 : 0 ≤ x6_3
                    · rw [if_pos c11] at H
                      have c11b0 : decide (0 ≤ x6_3) = true := decide_eq_true c11
                      clear c11
                      by_cases c12 : (((rd_T157 l1 x6_3).f0).size : Int) > 300
                      · rw [if_pos c12] at H
                        have c12b0 : decide (300 < (((rd_T157 l1 x6_3).f0).size : Int)) = true := decide_eq_true c12
                        have c12b1 : decide (300 < ((rd_T157 l1 x6_3).f0).size) = true := decide_eq_true (by omega)
                        clear c12
                        obtain rfl := Option.some.inj H
                        have p105 : 0 ≤ (x6_3 : Int) := of_decide_eq_true (by first | (with_reducible assumption) | assumption)
                        have q105 : x6_3 < (l1.length : Int) := of_decide_eq_true (by first | (with_reducible assumption) | assumption)
                        obtain ⟨ad105, e105, hx105_0, hx105_1, hx105_2⟩ := at_T157 HR1.out x6_3 p105 q105
                        cases e105
                        replace p105 := eq_true p105
                        replace q105 := eq_true q105
                        go_wp2
                        go_ret
                        exact ⟨by first | rfl | (simp; done) | (simp [*]; done), by repeat (first | exact Drawn0.refl _ | apply Drawn0.step)⟩
                      · rw [if_neg c12] at H
                        have c12b0 : decide (300 < (((rd_T157 l1 x6_3).f0).size : Int)) = false := decide_eq_false c12
                        have c12b1 : decide (300 < ((rd_T157 l1 x6_3).f0).size) = false := decide_eq_false (by omega)
                        clear c12
                        by_cases c13 : (((rd_T157 l1 x6_3).f1).size : Int) > 300
                        · rw [if_pos c13] at H
                          have c13b0 : decide (300 < (((rd_T157 l1 x6_3).f1).size : Int)) = true := decide_eq_true c13
                          have c13b1 : decide (300 < ((rd_T157 l1 x6_3).f1).size) = true := decide_eq_true (by omega)
                          clear c13
                          obtain rfl := Option.some.inj H
                          have p105 : 0 ≤ (x6_3 : Int) := of_decide_eq_true (by first | (with_reducible assumption) | assumption)
                          have q105 : x6_3 < (l1.length : Int) := of_decide_eq_true (by first | (with_reducible assumption) | assumption)
                          obtain ⟨ad105, e105, hx105_0, hx105_1, hx105_2⟩ := at_T157 HR1.out x6_3 p105 q105
                          cases e105
                          replace p105 := eq_true p105
                          replace q105 := eq_true q105
                          have p106 : 0 ≤ (x6_3 : Int) := of_decide_eq_true (by first | (with_reducible assumption) | assumption)
                          have q106 : x6_3 < (l1.length : Int) := of_decide_eq_true (by first | (with_reducible assumption) | assumption)
                          obtain ⟨ad106, e106, hx106_0, hx106_1, hx106_2⟩ := at_T157 HR1.out x6_3 p106 q106
                          obtain rfl : ad105 = ad106 := (by injection e106)
                          replace p106 := eq_true p106
                          replace q106 := eq_true q106
                          go_wp2
                          go_ret
                          exact ⟨by first | rfl | (simp; done) | (simp [*]; done), by repeat (first | exact Drawn0.refl _ | apply Drawn0.step)⟩
                        · rw [if_neg c13] at H
                          have c13b0 : decide (300 < (((rd_T157 l1 x6_3).f1).size : Int)) = false := decide_eq_false c13
                          have c13b1 : decide (300 < ((rd_T157 l1 x6_3).f1).size) = false := decide_eq_false (by omega)
                          clear c13
                          have H' := Aside0.mk H
                          clear H
                          have p105 : 0 ≤ (x6_3 : Int) := of_decide_eq_true (by first | (with_reducible assumption) | assumption)
                          have q105 : x6_3 < (l1.length : Int) := of_decide_eq_true (by first | (with_reducible assumption) | assumption)
                          obtain ⟨ad105, e105, hx105_0, hx105_1, hx105_2⟩ := at_T157 HR1.out x6_3 p105 q105
                          cases e105
                          replace p105 := eq_true p105
                          replace q105 := eq_true q105
                          have p106 : 0 ≤ (x6_3 : Int) := of_decide_eq_true (by first | (with_reducible assumption) | assumption)
                          have q106 : x6_3 < (l1.length : Int) := of_decide_eq_true (by first | (with_reducible assumption) | assumption)
                          obtain ⟨ad106, e106, hx106_0, hx106_1, hx106_2⟩ := at_T157 HR1.out x6_3 p106 q106
                          obtain rfl : ad105 = ad106 := (by injection e106)
                          replace p106 := eq_true p106
                          replace q106 := eq_true q106
                          go_wp2
                          go_roundg k3
                          case measure => have := HJ2.out; have := HK2.out; have := HK3.out; omega
                          case rel => exact ⟨(wrap64 (x6_3 + 1)), (by first | rfl | (simp; done) | (simp [*]; done)), H', ⟨by have := HJ2.out; have := HK2.out; have := HK3.out; omega⟩, by repeat (first | exact Drawn0.refl _ | apply Drawn0.step)⟩
                    · rw [if_neg c11] at H
                      exact absurd H (by simp)
                  · rw [if_neg c10] at H
                    have c10b0 : decide (x6_3 < (l1.length : Int)) = false := decide_eq_false c10
                    clear c10
                    obtain rfl := Option.some.inj H
                    go_wp2
                    go_ret
                    exact ⟨by first | rfl | (simp; done) | (simp [*]; done), by repeat (first | exact Drawn0.refl _ | apply Drawn0.step)⟩

/-! ### triremeref07_LightMachine: function 89 -/
def triremeref07_LightMachine.f (k : Nat) (a0_0 : ByteArray) (a0_1 : ByteArray) (a0_2 : Int) (a0_3 : Int) (a0_4 : Int) (a0_5 : Int) (a0_6 : Int) (l0_7 : List (S83)) (l0_8 : List (S157)) (a0_9 : Bool) : Option (Bool) := if (a0_0.size : Int) ≤ 300 then (if (a0_1.size : Int) ≤ 300 then ((triremeref05_Light.f k l0_7).bind fun t108 => (if t108 = true then ((triremeref06_Light.f k ([] : List (S169)) l0_8).bind fun t109 => (some t109)) else (some false))) else (some false)) else (some false)
theorem triremeref07_LightMachine.mono : ∀ a0 a1 a2 a3 a4 a5 a6 a7 a8 a9 k, LeO (triremeref07_LightMachine.f k a0 a1 a2 a3 a4 a5 a6 a7 a8 a9) (triremeref07_LightMachine.f (k + 1) a0 a1 a2 a3 a4 a5 a6 a7 a8 a9) := by
  intro a0 a1 a2 a3 a4 a5 a6 a7 a8 a9 k
  unfold triremeref07_LightMachine.f
  repeat' first
      | (with_reducible exact triremeref05_Light.mono _ _)
      | (with_reducible exact triremeref06_Light.mono _ _ _)
      | (with_reducible exact LeO.refl _)
      | (with_reducible exact LeO.none _)
      | (with_reducible refine LeO.ite ?_ ?_)
      | (with_reducible refine LeO.bind ?_ (fun _ => ?_))
      | exact triremeref05_Light.mono _ _
      | exact triremeref06_Light.mono _ _ _
      | exact LeO.none _
      | refine LeO.ite ?_ ?_
      | refine LeO.bind ?_ (fun _ => ?_)
set_option maxHeartbeats 8000000 in
set_option maxRecDepth 100000 in
theorem triremeref07_LightMachine.calls (k : Nat) (a0_0 : ByteArray) (a0_1 : ByteArray) (a0_2 : Int) (a0_3 : Int) (a0_4 : Int) (a0_5 : Int) (a0_6 : Int) (A0_7 : Option Addr) (c0_7 : Nat) (l0_7 : List (S83)) (A0_8 : Option Addr) (c0_8 : Nat) (l0_8 : List (S157)) (a0_9 : Bool) (r : Bool) (w : World) (hr0_7 : Kd.C k83 w A0_7 l0_7.length l0_7) (hc0_7 : l0_7.length ≤ c0_7) (hr0_8 : Kd.C k157 w A0_8 l0_8.length l0_8) (hc0_8 : l0_8.length ≤ c0_8) (h : triremeref07_LightMachine.f k a0_0 a0_1 a0_2 a0_3 a0_4 a0_5 a0_6 l0_7 l0_8 a0_9 = some r) :
    Calls Try.prog 89 #[.agg #[.string a0_0, .string a0_1, .int .i64 a0_2, .int .i64 a0_3, .int .i64 a0_4, .int .i64 a0_5, .int .i64 a0_6, .slice A0_7 l0_7.length c0_7, .slice A0_8 l0_8.length c0_8, .bool a0_9]] w fun e w' => e = .returned (.bool r) ∧ Below w.heap.size w w' := by
  have hu74 := Try.underlying74
  have HR0_7 := Aside0.mk hr0_7
  have HC0_7 := Aside0.mk hc0_7
  clear hr0_7 hc0_7
  have HR0_8 := Aside0.mk hr0_8
  have HC0_8 := Aside0.mk hc0_8
  clear hr0_8 hc0_8
  have HB := Aside0.mk (Below.refl w.heap.size w)
  have H : (if (a0_0.size : Int) ≤ 300 then (if (a0_1.size : Int) ≤ 300 then ((triremeref05_Light.f k l0_7).bind fun t108 => (if t108 = true then ((triremeref06_Light.f k ([] : List (S169)) l0_8).bind fun t109 => (some t109)) else (some false))) else (some false)) else (some false)) = some r := h
  clear h
  by_cases c2 : (a0_0.size : Int) ≤ 300
  · rw [if_pos c2] at H
    have c2b0 : decide ((a0_0.size : Int) ≤ 300) = true := decide_eq_true c2
    have c2b1 : decide (a0_0.size ≤ 300) = true := decide_eq_true (by omega)
    clear c2
    by_cases c3 : (a0_1.size : Int) ≤ 300
    · rw [if_pos c3] at H
      have c3b0 : decide ((a0_1.size : Int) ≤ 300) = true := decide_eq_true c3
      have c3b1 : decide (a0_1.size ≤ 300) = true := decide_eq_true (by omega)
      clear c3
      replace H := Option.bind_eq_some_iff.mp H
      obtain ⟨t108, A40, H⟩ := H
      replace H : (if t108 = true then ((triremeref06_Light.f k ([] : List (S169)) l0_8).bind fun t109 => (some t109)) else (some false)) = some r := H
      have A4 := Aside0.mk A40
      clear A40
      by_cases c5 : t108 = true
      · subst c5
        have H1 : ((triremeref06_Light.f k ([] : List (S169)) l0_8).bind fun t109 => (some t109)) = some r := by rw [if_pos rfl] at H; exact H
        clear H
        have H := H1
        clear H1
        replace H := Option.bind_eq_some_iff.mp H
        obtain ⟨t109, A60, H⟩ := H
        replace H : (some t109) = some r := H
        have A6 := Aside0.mk A60
        clear A60
        obtain rfl := Option.some.inj H
        go_enter Try.func89, Try.ntmps89
        go_wp2_with (first | ((with_reducible refine gate_dst (N := 1) rfl ?_); (try (refine gate_guard (by rfl) ?_; dsimp only)); refine box_event ?hg (N := 1) ?hd (cs := #[.string a0_0, .string a0_1, .int .i64 a0_2, .int .i64 a0_3, .int .i64 a0_4, .int .i64 a0_5, .int .i64 a0_6, .slice A0_7 l0_7.length c0_7, .slice A0_8 l0_8.length c0_8, .bool a0_9]) (t := 74) ?hr ?_; (case hd => rfl); (case hg => rfl); (case hr => first | (go_simp; done) | (go_simp; rfl)); intro gb107 hg w7 hbox hb; have n0_ := Aside0.mk (below_step (by repeat (first | (with_reducible first | exact HB.out | apply below_alloc | apply pw_below_drewN | apply below_drew1) | exact HB.out)) hb); have n1_ := Aside0.mk (hbox); have n2_ := Aside0.mk ((by rw [hg]; exact (below_size (by repeat (first | (with_reducible first | exact HB.out | apply below_alloc | apply pw_below_drewN | apply below_drew1) | exact HB.out))) : w.heap.size ≤ gb107)); have n3_ := Aside0.mk ((by rw [hg]; exact (below_size (by repeat (first | (with_reducible first | exact HB.out | apply below_alloc | apply pw_below_drewN | apply below_drew1) | exact HB.out))) : w.heap.size ≤ gb107)); clear HB; have HB := n0_; have BK107 := n1_; have GW107 := n2_; have GE107 := n3_; clear n0_ n1_ n2_ n3_; clear hb hbox hg; have hcz8_0 : w7.cell? ⟨gb107, 0, none⟩ = some (.string a0_0) := (blk_cell BK107.out 0).trans rfl; have hcz8_1 : w7.cell? ⟨gb107, 1, none⟩ = some (.string a0_1) := (blk_cell BK107.out 1).trans rfl; have hcz8_2 : w7.cell? ⟨gb107, 2, none⟩ = some (.int .i64 a0_2) := (blk_cell BK107.out 2).trans rfl; have hcz8_3 : w7.cell? ⟨gb107, 3, none⟩ = some (.int .i64 a0_3) := (blk_cell BK107.out 3).trans rfl; have hcz8_4 : w7.cell? ⟨gb107, 4, none⟩ = some (.int .i64 a0_4) := (blk_cell BK107.out 4).trans rfl; have hcz8_5 : w7.cell? ⟨gb107, 5, none⟩ = some (.int .i64 a0_5) := (blk_cell BK107.out 5).trans rfl; have hcz8_6 : w7.cell? ⟨gb107, 6, none⟩ = some (.int .i64 a0_6) := (blk_cell BK107.out 6).trans rfl; have hcz8_7 : w7.cell? ⟨gb107, 7, none⟩ = some (.slice A0_7 l0_7.length c0_7) := (blk_cell BK107.out 7).trans rfl; have hcz8_8 : w7.cell? ⟨gb107, 8, none⟩ = some (.slice A0_8 l0_8.length c0_8) := (blk_cell BK107.out 8).trans rfl; have hcz8_9 : w7.cell? ⟨gb107, 9, none⟩ = some (.bool a0_9) := (blk_cell BK107.out 9).trans rfl; have hfz8_0 := blk_frozen BK107.out 0; have hfz8_1 := blk_frozen BK107.out 1; have hfz8_2 := blk_frozen BK107.out 2; have hfz8_3 := blk_frozen BK107.out 3; have hfz8_4 := blk_frozen BK107.out 4; have hfz8_5 := blk_frozen BK107.out 5; have hfz8_6 := blk_frozen BK107.out 6; have hfz8_7 := blk_frozen BK107.out 7; have hfz8_8 := blk_frozen BK107.out 8; have hfz8_9 := blk_frozen BK107.out 9) | (go_at_call 70; (with_reducible refine (triremeref05_Light.calls k _ _ l0_7 true _ ?side1 ?side2 A4.out).mono ?_); (case side1 => repeat (first | exact (Kd.C_below HR0_7.out HB.out) | (with_reducible refine Kd.C_alloc ?_ _) | (with_reducible refine Kd.C_drewN ?_ _) | (with_reducible refine Kd.C_drew ?_))); (case side2 => exact HC0_7.out); rintro e w' ⟨rfl, ⟨nd, rfl⟩⟩) | (go_at_call 117; (refine (triremeref06_Light.calls k _ _ ([] : List (S169)) _ _ l0_8 t109 _ ?side1 ?side2 ?side3 ?side4 A6.out).mono ?_); (case side1 => exact Kd.C_nil _ _); (case side2 => exact Nat.le_refl _); (case side3 => repeat (first | exact (Kd.C_below HR0_8.out (by repeat (first | (with_reducible first | exact HB.out | apply below_alloc | apply pw_below_drewN | apply below_drew1 | refine below_set ?_ GE107.out) | exact HB.out))) | (with_reducible refine Kd.C_alloc ?_ _) | (with_reducible refine Kd.C_drewN ?_ _) | (with_reducible refine Kd.C_drew ?_))); (case side4 => exact HC0_8.out); rintro e w' ⟨rfl, ⟨nd, rfl⟩⟩))
        go_ret
        exact ⟨by first | rfl | (simp [errW_none, errW_some] <;> rfl) | (simp [*, errW_none, errW_some] <;> rfl), by repeat (first | (with_reducible first | exact HB.out | apply below_alloc | apply pw_below_drewN | apply below_drew1 | refine below_set ?_ GE107.out) | exact HB.out)⟩
      · replace c5 := Bool.eq_false_iff.mpr c5
        subst c5
        have H1 : (some false) = some r := by rw [if_neg (show ¬ (false = true) by decide)] at H; exact H
        clear H
        have H := H1
        clear H1
        obtain rfl := Option.some.inj H
        go_enter Try.func89, Try.ntmps89
        go_wp2_with (first | ((with_reducible refine gate_dst (N := 1) rfl ?_); (try (refine gate_guard (by rfl) ?_; dsimp only)); refine box_event ?hg (N := 1) ?hd (cs := #[.string a0_0, .string a0_1, .int .i64 a0_2, .int .i64 a0_3, .int .i64 a0_4, .int .i64 a0_5, .int .i64 a0_6, .slice A0_7 l0_7.length c0_7, .slice A0_8 l0_8.length c0_8, .bool a0_9]) (t := 74) ?hr ?_; (case hd => rfl); (case hg => rfl); (case hr => first | (go_simp; done) | (go_simp; rfl)); intro gb107 hg w9 hbox hb; have n0_ := Aside0.mk (below_step (by repeat (first | (with_reducible first | exact HB.out | apply below_alloc | apply pw_below_drewN | apply below_drew1) | exact HB.out)) hb); have n1_ := Aside0.mk (hbox); have n2_ := Aside0.mk ((by rw [hg]; exact (below_size (by repeat (first | (with_reducible first | exact HB.out | apply below_alloc | apply pw_below_drewN | apply below_drew1) | exact HB.out))) : w.heap.size ≤ gb107)); have n3_ := Aside0.mk ((by rw [hg]; exact (below_size (by repeat (first | (with_reducible first | exact HB.out | apply below_alloc | apply pw_below_drewN | apply below_drew1) | exact HB.out))) : w.heap.size ≤ gb107)); clear HB; have HB := n0_; have BK107 := n1_; have GW107 := n2_; have GE107 := n3_; clear n0_ n1_ n2_ n3_; clear hb hbox hg; have hcz10_0 : w9.cell? ⟨gb107, 0, none⟩ = some (.string a0_0) := (blk_cell BK107.out 0).trans rfl; have hcz10_1 : w9.cell? ⟨gb107, 1, none⟩ = some (.string a0_1) := (blk_cell BK107.out 1).trans rfl; have hcz10_2 : w9.cell? ⟨gb107, 2, none⟩ = some (.int .i64 a0_2) := (blk_cell BK107.out 2).trans rfl; have hcz10_3 : w9.cell? ⟨gb107, 3, none⟩ = some (.int .i64 a0_3) := (blk_cell BK107.out 3).trans rfl; have hcz10_4 : w9.cell? ⟨gb107, 4, none⟩ = some (.int .i64 a0_4) := (blk_cell BK107.out 4).trans rfl; have hcz10_5 : w9.cell? ⟨gb107, 5, none⟩ = some (.int .i64 a0_5) := (blk_cell BK107.out 5).trans rfl; have hcz10_6 : w9.cell? ⟨gb107, 6, none⟩ = some (.int .i64 a0_6) := (blk_cell BK107.out 6).trans rfl; have hcz10_7 : w9.cell? ⟨gb107, 7, none⟩ = some (.slice A0_7 l0_7.length c0_7) := (blk_cell BK107.out 7).trans rfl; have hcz10_8 : w9.cell? ⟨gb107, 8, none⟩ = some (.slice A0_8 l0_8.length c0_8) := (blk_cell BK107.out 8).trans rfl; have hcz10_9 : w9.cell? ⟨gb107, 9, none⟩ = some (.bool a0_9) := (blk_cell BK107.out 9).trans rfl; have hfz10_0 := blk_frozen BK107.out 0; have hfz10_1 := blk_frozen BK107.out 1; have hfz10_2 := blk_frozen BK107.out 2; have hfz10_3 := blk_frozen BK107.out 3; have hfz10_4 := blk_frozen BK107.out 4; have hfz10_5 := blk_frozen BK107.out 5; have hfz10_6 := blk_frozen BK107.out 6; have hfz10_7 := blk_frozen BK107.out 7; have hfz10_8 := blk_frozen BK107.out 8; have hfz10_9 := blk_frozen BK107.out 9) | (go_at_call 70; (with_reducible refine (triremeref05_Light.calls k _ _ l0_7 false _ ?side1 ?side2 A4.out).mono ?_); (case side1 => repeat (first | exact (Kd.C_below HR0_7.out HB.out) | (with_reducible refine Kd.C_alloc ?_ _) | (with_reducible refine Kd.C_drewN ?_ _) | (with_reducible refine Kd.C_drew ?_))); (case side2 => exact HC0_7.out); rintro e w' ⟨rfl, ⟨nd, rfl⟩⟩))
        go_ret
        exact ⟨by first | rfl | (simp [errW_none, errW_some] <;> rfl) | (simp [*, errW_none, errW_some] <;> rfl), by repeat (first | (with_reducible first | exact HB.out | apply below_alloc | apply pw_below_drewN | apply below_drew1 | refine below_set ?_ GE107.out) | exact HB.out)⟩
    · rw [if_neg c3] at H
      have c3b0 : decide ((a0_1.size : Int) ≤ 300) = false := decide_eq_false c3
      have c3b1 : decide (a0_1.size ≤ 300) = false := decide_eq_false (by omega)
      clear c3
      obtain rfl := Option.some.inj H
      go_enter Try.func89, Try.ntmps89
      go_wp2_with (first | ((with_reducible refine gate_dst (N := 1) rfl ?_); (try (refine gate_guard (by rfl) ?_; dsimp only)); refine box_event ?hg (N := 1) ?hd (cs := #[.string a0_0, .string a0_1, .int .i64 a0_2, .int .i64 a0_3, .int .i64 a0_4, .int .i64 a0_5, .int .i64 a0_6, .slice A0_7 l0_7.length c0_7, .slice A0_8 l0_8.length c0_8, .bool a0_9]) (t := 74) ?hr ?_; (case hd => rfl); (case hg => rfl); (case hr => first | (go_simp; done) | (go_simp; rfl)); intro gb107 hg w11 hbox hb; have n0_ := Aside0.mk (below_step (by repeat (first | (with_reducible first | exact HB.out | apply below_alloc | apply pw_below_drewN | apply below_drew1) | exact HB.out)) hb); have n1_ := Aside0.mk (hbox); have n2_ := Aside0.mk ((by rw [hg]; exact (below_size (by repeat (first | (with_reducible first | exact HB.out | apply below_alloc | apply pw_below_drewN | apply below_drew1) | exact HB.out))) : w.heap.size ≤ gb107)); have n3_ := Aside0.mk ((by rw [hg]; exact (below_size (by repeat (first | (with_reducible first | exact HB.out | apply below_alloc | apply pw_below_drewN | apply below_drew1) | exact HB.out))) : w.heap.size ≤ gb107)); clear HB; have HB := n0_; have BK107 := n1_; have GW107 := n2_; have GE107 := n3_; clear n0_ n1_ n2_ n3_; clear hb hbox hg; have hcz12_0 : w11.cell? ⟨gb107, 0, none⟩ = some (.string a0_0) := (blk_cell BK107.out 0).trans rfl; have hcz12_1 : w11.cell? ⟨gb107, 1, none⟩ = some (.string a0_1) := (blk_cell BK107.out 1).trans rfl; have hcz12_2 : w11.cell? ⟨gb107, 2, none⟩ = some (.int .i64 a0_2) := (blk_cell BK107.out 2).trans rfl; have hcz12_3 : w11.cell? ⟨gb107, 3, none⟩ = some (.int .i64 a0_3) := (blk_cell BK107.out 3).trans rfl; have hcz12_4 : w11.cell? ⟨gb107, 4, none⟩ = some (.int .i64 a0_4) := (blk_cell BK107.out 4).trans rfl; have hcz12_5 : w11.cell? ⟨gb107, 5, none⟩ = some (.int .i64 a0_5) := (blk_cell BK107.out 5).trans rfl; have hcz12_6 : w11.cell? ⟨gb107, 6, none⟩ = some (.int .i64 a0_6) := (blk_cell BK107.out 6).trans rfl; have hcz12_7 : w11.cell? ⟨gb107, 7, none⟩ = some (.slice A0_7 l0_7.length c0_7) := (blk_cell BK107.out 7).trans rfl; have hcz12_8 : w11.cell? ⟨gb107, 8, none⟩ = some (.slice A0_8 l0_8.length c0_8) := (blk_cell BK107.out 8).trans rfl; have hcz12_9 : w11.cell? ⟨gb107, 9, none⟩ = some (.bool a0_9) := (blk_cell BK107.out 9).trans rfl; have hfz12_0 := blk_frozen BK107.out 0; have hfz12_1 := blk_frozen BK107.out 1; have hfz12_2 := blk_frozen BK107.out 2; have hfz12_3 := blk_frozen BK107.out 3; have hfz12_4 := blk_frozen BK107.out 4; have hfz12_5 := blk_frozen BK107.out 5; have hfz12_6 := blk_frozen BK107.out 6; have hfz12_7 := blk_frozen BK107.out 7; have hfz12_8 := blk_frozen BK107.out 8; have hfz12_9 := blk_frozen BK107.out 9))
      go_ret
      exact ⟨by first | rfl | (simp [errW_none, errW_some] <;> rfl) | (simp [*, errW_none, errW_some] <;> rfl), by repeat (first | (with_reducible first | exact HB.out | apply below_alloc | apply pw_below_drewN | apply below_drew1 | refine below_set ?_ GE107.out) | exact HB.out)⟩
  · rw [if_neg c2] at H
    have c2b0 : decide ((a0_0.size : Int) ≤ 300) = false := decide_eq_false c2
    have c2b1 : decide (a0_0.size ≤ 300) = false := decide_eq_false (by omega)
    clear c2
    obtain rfl := Option.some.inj H
    go_enter Try.func89, Try.ntmps89
    go_wp2_with (first | ((with_reducible refine gate_dst (N := 1) rfl ?_); (try (refine gate_guard (by rfl) ?_; dsimp only)); refine box_event ?hg (N := 1) ?hd (cs := #[.string a0_0, .string a0_1, .int .i64 a0_2, .int .i64 a0_3, .int .i64 a0_4, .int .i64 a0_5, .int .i64 a0_6, .slice A0_7 l0_7.length c0_7, .slice A0_8 l0_8.length c0_8, .bool a0_9]) (t := 74) ?hr ?_; (case hd => rfl); (case hg => rfl); (case hr => first | (go_simp; done) | (go_simp; rfl)); intro gb107 hg w13 hbox hb; have n0_ := Aside0.mk (below_step (by repeat (first | (with_reducible first | exact HB.out | apply below_alloc | apply pw_below_drewN | apply below_drew1) | exact HB.out)) hb); have n1_ := Aside0.mk (hbox); have n2_ := Aside0.mk ((by rw [hg]; exact (below_size (by repeat (first | (with_reducible first | exact HB.out | apply below_alloc | apply pw_below_drewN | apply below_drew1) | exact HB.out))) : w.heap.size ≤ gb107)); have n3_ := Aside0.mk ((by rw [hg]; exact (below_size (by repeat (first | (with_reducible first | exact HB.out | apply below_alloc | apply pw_below_drewN | apply below_drew1) | exact HB.out))) : w.heap.size ≤ gb107)); clear HB; have HB := n0_; have BK107 := n1_; have GW107 := n2_; have GE107 := n3_; clear n0_ n1_ n2_ n3_; clear hb hbox hg; have hcz14_0 : w13.cell? ⟨gb107, 0, none⟩ = some (.string a0_0) := (blk_cell BK107.out 0).trans rfl; have hcz14_1 : w13.cell? ⟨gb107, 1, none⟩ = some (.string a0_1) := (blk_cell BK107.out 1).trans rfl; have hcz14_2 : w13.cell? ⟨gb107, 2, none⟩ = some (.int .i64 a0_2) := (blk_cell BK107.out 2).trans rfl; have hcz14_3 : w13.cell? ⟨gb107, 3, none⟩ = some (.int .i64 a0_3) := (blk_cell BK107.out 3).trans rfl; have hcz14_4 : w13.cell? ⟨gb107, 4, none⟩ = some (.int .i64 a0_4) := (blk_cell BK107.out 4).trans rfl; have hcz14_5 : w13.cell? ⟨gb107, 5, none⟩ = some (.int .i64 a0_5) := (blk_cell BK107.out 5).trans rfl; have hcz14_6 : w13.cell? ⟨gb107, 6, none⟩ = some (.int .i64 a0_6) := (blk_cell BK107.out 6).trans rfl; have hcz14_7 : w13.cell? ⟨gb107, 7, none⟩ = some (.slice A0_7 l0_7.length c0_7) := (blk_cell BK107.out 7).trans rfl; have hcz14_8 : w13.cell? ⟨gb107, 8, none⟩ = some (.slice A0_8 l0_8.length c0_8) := (blk_cell BK107.out 8).trans rfl; have hcz14_9 : w13.cell? ⟨gb107, 9, none⟩ = some (.bool a0_9) := (blk_cell BK107.out 9).trans rfl; have hfz14_0 := blk_frozen BK107.out 0; have hfz14_1 := blk_frozen BK107.out 1; have hfz14_2 := blk_frozen BK107.out 2; have hfz14_3 := blk_frozen BK107.out 3; have hfz14_4 := blk_frozen BK107.out 4; have hfz14_5 := blk_frozen BK107.out 5; have hfz14_6 := blk_frozen BK107.out 6; have hfz14_7 := blk_frozen BK107.out 7; have hfz14_8 := blk_frozen BK107.out 8; have hfz14_9 := blk_frozen BK107.out 9))
    go_ret
    exact ⟨by first | rfl | (simp [errW_none, errW_some] <;> rfl) | (simp [*, errW_none, errW_some] <;> rfl), by repeat (first | (with_reducible first | exact HB.out | apply below_alloc | apply pw_below_drewN | apply below_drew1 | refine below_set ?_ GE107.out) | exact HB.out)⟩

/-! ### triremeref16_Light: function 46 -/
def triremeref16_Light.l0 : Nat → List (S76) → Int → Option (Bool)
  | 0, _, _ => none
  | k + 1, x0, x3 => if x3 < (x0.length : Int) then (if 0 ≤ x3 then (if (((rd_T76 x0 x3).f0).size : Int) > 300 then (some false) else ((triremeref07_LightMachine.f k ((rd_T76 x0 x3).f3.f0) ((rd_T76 x0 x3).f3.f1) ((rd_T76 x0 x3).f3.f2.f0) ((rd_T76 x0 x3).f3.f2.f1) ((rd_T76 x0 x3).f3.f2.f2) ((rd_T76 x0 x3).f3.f2.f3) ((rd_T76 x0 x3).f3.f2.f4) ((rd_T76 x0 x3).f3.f3) ((rd_T76 x0 x3).f3.f4) ((rd_T76 x0 x3).f3.f5)).bind fun t112 => (if t112 = true then (triremeref16_Light.l0 k x0 (wrap64 (x3 + 1))) else (some false)))) else (none)) else (some true)
def triremeref16_Light.f (k : Nat) (l0 : List (S76)) : Option (Bool) := if (l0.length : Int) > 20 then (some false) else (triremeref16_Light.l0 k l0 0)
theorem triremeref16_Light.mono_l : ∀ k, (∀ y0 y1, LeO (triremeref16_Light.l0 k y0 y1) (triremeref16_Light.l0 (k + 1) y0 y1))
  | 0 => fun _ _ r h => by simp [triremeref16_Light.l0] at h
  | k + 1 => by
    have ih0 := triremeref16_Light.mono_l k
    · intro y0 y1
      unfold triremeref16_Light.l0
      repeat' first
      | (with_reducible exact ih0 _ _)
      | (with_reducible exact triremeref07_LightMachine.mono _ _ _ _ _ _ _ _ _ _ _)
      | (with_reducible exact LeO.refl _)
      | (with_reducible exact LeO.none _)
      | (with_reducible refine LeO.ite ?_ ?_)
      | (with_reducible refine LeO.bind ?_ (fun _ => ?_))
      | exact ih0 _ _
      | exact triremeref07_LightMachine.mono _ _ _ _ _ _ _ _ _ _ _
      | exact LeO.none _
      | refine LeO.ite ?_ ?_
      | refine LeO.bind ?_ (fun _ => ?_)
theorem triremeref16_Light.mono : ∀ a0 k, LeO (triremeref16_Light.f k a0) (triremeref16_Light.f (k + 1) a0) := by
  intro a0 k
  have ih0 := triremeref16_Light.mono_l k
  unfold triremeref16_Light.f
  repeat' first
      | (with_reducible exact ih0 _ _)
      | (with_reducible exact triremeref07_LightMachine.mono _ _ _ _ _ _ _ _ _ _ _)
      | (with_reducible exact LeO.refl _)
      | (with_reducible exact LeO.none _)
      | (with_reducible refine LeO.ite ?_ ?_)
      | (with_reducible refine LeO.bind ?_ (fun _ => ?_))
      | exact ih0 _ _
      | exact triremeref07_LightMachine.mono _ _ _ _ _ _ _ _ _ _ _
      | exact LeO.none _
      | refine LeO.ite ?_ ?_
      | refine LeO.bind ?_ (fun _ => ?_)
set_option maxHeartbeats 8000000 in
set_option maxRecDepth 100000 in
theorem triremeref16_Light.calls (k : Nat) (A0 : Option Addr) (c0 : Nat) (l0 : List (S76)) (r : Bool) (w : World) (hr0 : Kd.C k76 w A0 l0.length l0) (hc0 : l0.length ≤ c0) (h : triremeref16_Light.f k l0 = some r) :
    Calls Try.prog 46 #[.slice A0 l0.length c0] w fun e w' => e = .returned (.bool r) ∧ Below w.heap.size w w' := by
  have hu74 := Try.underlying74
  have HR0 := Aside0.mk hr0
  have HC0 := Aside0.mk hc0
  clear hr0 hc0
  have HB := Aside0.mk (Below.refl w.heap.size w)
  have H : (if (l0.length : Int) > 20 then (some false) else (triremeref16_Light.l0 k l0 0)) = some r := h
  clear h
  by_cases c2 : (l0.length : Int) > 20
  · rw [if_pos c2] at H
    have c2b0 : decide (20 < (l0.length : Int)) = true := decide_eq_true c2
    have c2b1 : decide (20 < l0.length) = true := decide_eq_true (by omega)
    clear c2
    obtain rfl := Option.some.inj H
    go_enter Try.func46, Try.ntmps46
    go_wp2
    go_ret
    exact ⟨by first | rfl | (simp [errW_none, errW_some] <;> rfl) | (simp [*, errW_none, errW_some] <;> rfl), by repeat (first | (with_reducible first | exact HB.out | apply below_alloc | apply pw_below_drewN | apply below_drew1) | exact HB.out)⟩
  · rw [if_neg c2] at H
    have c2b0 : decide (20 < (l0.length : Int)) = false := decide_eq_false c2
    have c2b1 : decide (20 < l0.length) = false := decide_eq_false (by omega)
    clear c2
    have H' := Aside0.mk H
    clear H
    go_enter Try.func46, Try.ntmps46
    go_wp2
    go_loopg [3] k (fun kq v3 w' => ∃ (x3_1 : Int), v3 = .int .i64 x3_1 ∧ Aside0 (triremeref16_Light.l0 kq l0 x3_1 = some r) ∧ Aside0 (kq ≤ k) ∧ Aside0 (Below w.heap.size w w'))
    case atStart => exact ⟨(0), (by first | rfl | (simp; done) | (simp [*]; done)), H', ⟨Nat.le_refl _⟩, ⟨by repeat (first | (with_reducible first | exact HB.out | apply below_alloc | apply pw_below_drewN | apply below_drew1) | exact HB.out)⟩⟩
    case round =>
      clear H'
      try clear c2
      try clear c2b0
      try clear c2b1
      try clear p2
      obtain ⟨x3_1, rfl, HA, HK1, HB⟩ := hrel
      cases gk with
      | zero => exact absurd HA.out (by simp [triremeref16_Light.l0])
      | succ k1 =>
        have H := HA.out
        clear HA
        simp only [triremeref16_Light.l0] at H
        by_cases c3 : x3_1 < (l0.length : Int)
        · rw [if_pos c3] at H
          have c3b0 : decide (x3_1 < (l0.length : Int)) = true := decide_eq_true c3
          clear c3
          by_cases c4 : 0 ≤ x3_1
          · rw [if_pos c4] at H
            have c4b0 : decide (0 ≤ x3_1) = true := decide_eq_true c4
            clear c4
            by_cases c5 : (((rd_T76 l0 x3_1).f0).size : Int) > 300
            · rw [if_pos c5] at H
              have c5b0 : decide (300 < (((rd_T76 l0 x3_1).f0).size : Int)) = true := decide_eq_true c5
              have c5b1 : decide (300 < ((rd_T76 l0 x3_1).f0).size) = true := decide_eq_true (by omega)
              clear c5
              obtain rfl := Option.some.inj H
              have p110 : 0 ≤ (x3_1 : Int) := of_decide_eq_true (by first | (with_reducible assumption) | assumption)
              have q110 : x3_1 < (l0.length : Int) := of_decide_eq_true (by first | (with_reducible assumption) | assumption)
              obtain ⟨ad110, A110_10, c110_10, A110_11, c110_11, e110, hx110_0, hx110_1, hx110_2, hx110_3, hx110_4, hx110_5, hx110_6, hx110_7, hx110_8, hx110_9, hx110_10, hx110_11, hx110_12, hx110_13, hx110_14, hl110_10, hi110_10, hl110_11, hi110_11⟩ := at_T76 HR0.out x3_1 p110 q110
              cases e110
              replace hx110_0 := (HB.out.cell (World.block_lt_of_cell? w _ hx110_0)).trans hx110_0
              replace hx110_1 := (HB.out.cell (World.block_lt_of_cell? w _ hx110_1)).trans hx110_1
              replace hx110_2 := (HB.out.cell (World.block_lt_of_cell? w _ hx110_2)).trans hx110_2
              replace hx110_3 := (HB.out.cell (World.block_lt_of_cell? w _ hx110_3)).trans hx110_3
              replace hx110_4 := (HB.out.cell (World.block_lt_of_cell? w _ hx110_4)).trans hx110_4
              replace hx110_5 := (HB.out.cell (World.block_lt_of_cell? w _ hx110_5)).trans hx110_5
              replace hx110_6 := (HB.out.cell (World.block_lt_of_cell? w _ hx110_6)).trans hx110_6
              replace hx110_7 := (HB.out.cell (World.block_lt_of_cell? w _ hx110_7)).trans hx110_7
              replace hx110_8 := (HB.out.cell (World.block_lt_of_cell? w _ hx110_8)).trans hx110_8
              replace hx110_9 := (HB.out.cell (World.block_lt_of_cell? w _ hx110_9)).trans hx110_9
              replace hx110_10 := (HB.out.cell (World.block_lt_of_cell? w _ hx110_10)).trans hx110_10
              replace hx110_11 := (HB.out.cell (World.block_lt_of_cell? w _ hx110_11)).trans hx110_11
              replace hx110_12 := (HB.out.cell (World.block_lt_of_cell? w _ hx110_12)).trans hx110_12
              replace hx110_13 := (HB.out.cell (World.block_lt_of_cell? w _ hx110_13)).trans hx110_13
              replace hx110_14 := (HB.out.cell (World.block_lt_of_cell? w _ hx110_14)).trans hx110_14
              have HR110_10 := Aside0.mk hi110_10
              have HC110_10 := Aside0.mk hl110_10
              clear hi110_10 hl110_10
              have HR110_11 := Aside0.mk hi110_11
              have HC110_11 := Aside0.mk hl110_11
              clear hi110_11 hl110_11
              replace p110 := eq_true p110
              replace q110 := eq_true q110
              go_wp2
              go_ret
              exact ⟨by first | rfl | (simp [errW_none, errW_some] <;> rfl) | (simp [*, errW_none, errW_some] <;> rfl), by repeat (first | (with_reducible first | exact HB.out | apply below_alloc | apply pw_below_drewN | apply below_drew1) | exact HB.out)⟩
            · rw [if_neg c5] at H
              have c5b0 : decide (300 < (((rd_T76 l0 x3_1).f0).size : Int)) = false := decide_eq_false c5
              have c5b1 : decide (300 < ((rd_T76 l0 x3_1).f0).size) = false := decide_eq_false (by omega)
              clear c5
              replace H := Option.bind_eq_some_iff.mp H
              obtain ⟨t112, A60, H⟩ := H
              replace H : (if t112 = true then (triremeref16_Light.l0 k1 l0 (wrap64 (x3_1 + 1))) else (some false)) = some r := H
              have A6 := Aside0.mk A60
              clear A60
              by_cases c7 : t112 = true
              · subst c7
                have H1 : (triremeref16_Light.l0 k1 l0 (wrap64 (x3_1 + 1))) = some r := by rw [if_pos rfl] at H; exact H
                clear H
                have H := H1
                clear H1
                have H' := Aside0.mk H
                clear H
                have p110 : 0 ≤ (x3_1 : Int) := of_decide_eq_true (by first | (with_reducible assumption) | assumption)
                have q110 : x3_1 < (l0.length : Int) := of_decide_eq_true (by first | (with_reducible assumption) | assumption)
                obtain ⟨ad110, A110_10, c110_10, A110_11, c110_11, e110, hx110_0, hx110_1, hx110_2, hx110_3, hx110_4, hx110_5, hx110_6, hx110_7, hx110_8, hx110_9, hx110_10, hx110_11, hx110_12, hx110_13, hx110_14, hl110_10, hi110_10, hl110_11, hi110_11⟩ := at_T76 HR0.out x3_1 p110 q110
                cases e110
                replace hx110_0 := (HB.out.cell (World.block_lt_of_cell? w _ hx110_0)).trans hx110_0
                replace hx110_1 := (HB.out.cell (World.block_lt_of_cell? w _ hx110_1)).trans hx110_1
                replace hx110_2 := (HB.out.cell (World.block_lt_of_cell? w _ hx110_2)).trans hx110_2
                replace hx110_3 := (HB.out.cell (World.block_lt_of_cell? w _ hx110_3)).trans hx110_3
                replace hx110_4 := (HB.out.cell (World.block_lt_of_cell? w _ hx110_4)).trans hx110_4
                replace hx110_5 := (HB.out.cell (World.block_lt_of_cell? w _ hx110_5)).trans hx110_5
                replace hx110_6 := (HB.out.cell (World.block_lt_of_cell? w _ hx110_6)).trans hx110_6
                replace hx110_7 := (HB.out.cell (World.block_lt_of_cell? w _ hx110_7)).trans hx110_7
                replace hx110_8 := (HB.out.cell (World.block_lt_of_cell? w _ hx110_8)).trans hx110_8
                replace hx110_9 := (HB.out.cell (World.block_lt_of_cell? w _ hx110_9)).trans hx110_9
                replace hx110_10 := (HB.out.cell (World.block_lt_of_cell? w _ hx110_10)).trans hx110_10
                replace hx110_11 := (HB.out.cell (World.block_lt_of_cell? w _ hx110_11)).trans hx110_11
                replace hx110_12 := (HB.out.cell (World.block_lt_of_cell? w _ hx110_12)).trans hx110_12
                replace hx110_13 := (HB.out.cell (World.block_lt_of_cell? w _ hx110_13)).trans hx110_13
                replace hx110_14 := (HB.out.cell (World.block_lt_of_cell? w _ hx110_14)).trans hx110_14
                have HR110_10 := Aside0.mk hi110_10
                have HC110_10 := Aside0.mk hl110_10
                clear hi110_10 hl110_10
                have HR110_11 := Aside0.mk hi110_11
                have HC110_11 := Aside0.mk hl110_11
                clear hi110_11 hl110_11
                replace p110 := eq_true p110
                replace q110 := eq_true q110
                have p111 : 0 ≤ (x3_1 : Int) := of_decide_eq_true (by first | (with_reducible assumption) | assumption)
                have q111 : x3_1 < (l0.length : Int) := of_decide_eq_true (by first | (with_reducible assumption) | assumption)
                obtain ⟨ad111, A111_10, c111_10, A111_11, c111_11, e111, hx111_0, hx111_1, hx111_2, hx111_3, hx111_4, hx111_5, hx111_6, hx111_7, hx111_8, hx111_9, hx111_10, hx111_11, hx111_12, hx111_13, hx111_14, hl111_10, hi111_10, hl111_11, hi111_11⟩ := at_T76 HR0.out x3_1 p111 q111
                obtain rfl : ad110 = ad111 := (by injection e111)
                replace hx111_0 := (HB.out.cell (World.block_lt_of_cell? w _ hx111_0)).trans hx111_0
                replace hx111_1 := (HB.out.cell (World.block_lt_of_cell? w _ hx111_1)).trans hx111_1
                replace hx111_2 := (HB.out.cell (World.block_lt_of_cell? w _ hx111_2)).trans hx111_2
                replace hx111_3 := (HB.out.cell (World.block_lt_of_cell? w _ hx111_3)).trans hx111_3
                replace hx111_4 := (HB.out.cell (World.block_lt_of_cell? w _ hx111_4)).trans hx111_4
                replace hx111_5 := (HB.out.cell (World.block_lt_of_cell? w _ hx111_5)).trans hx111_5
                replace hx111_6 := (HB.out.cell (World.block_lt_of_cell? w _ hx111_6)).trans hx111_6
                replace hx111_7 := (HB.out.cell (World.block_lt_of_cell? w _ hx111_7)).trans hx111_7
                replace hx111_8 := (HB.out.cell (World.block_lt_of_cell? w _ hx111_8)).trans hx111_8
                replace hx111_9 := (HB.out.cell (World.block_lt_of_cell? w _ hx111_9)).trans hx111_9
                replace hx111_10 := (HB.out.cell (World.block_lt_of_cell? w _ hx111_10)).trans hx111_10
                replace hx111_11 := (HB.out.cell (World.block_lt_of_cell? w _ hx111_11)).trans hx111_11
                replace hx111_12 := (HB.out.cell (World.block_lt_of_cell? w _ hx111_12)).trans hx111_12
                replace hx111_13 := (HB.out.cell (World.block_lt_of_cell? w _ hx111_13)).trans hx111_13
                replace hx111_14 := (HB.out.cell (World.block_lt_of_cell? w _ hx111_14)).trans hx111_14
                have HR111_10 := Aside0.mk hi111_10
                have HC111_10 := Aside0.mk hl111_10
                clear hi111_10 hl111_10
                have HR111_11 := Aside0.mk hi111_11
                have HC111_11 := Aside0.mk hl111_11
                clear hi111_11 hl111_11
                replace p111 := eq_true p111
                replace q111 := eq_true q111
                have ea_ := Option.some.inj (hx110_10.symm.trans hx111_10)
                injection ea_ with ea_ en_ ec_
                subst ea_
                subst ec_
                clear en_
                have ea_ := Option.some.inj (hx110_11.symm.trans hx111_11)
                injection ea_ with ea_ en_ ec_
                subst ea_
                subst ec_
                clear en_
                go_wp2_with (first | (go_at_call 89; (with_reducible refine (triremeref07_LightMachine.calls k1 ((rd_T76 l0 x3_1).f3.f0) ((rd_T76 l0 x3_1).f3.f1) ((rd_T76 l0 x3_1).f3.f2.f0) ((rd_T76 l0 x3_1).f3.f2.f1) ((rd_T76 l0 x3_1).f3.f2.f2) ((rd_T76 l0 x3_1).f3.f2.f3) ((rd_T76 l0 x3_1).f3.f2.f4) _ _ ((rd_T76 l0 x3_1).f3.f3) _ _ ((rd_T76 l0 x3_1).f3.f4) ((rd_T76 l0 x3_1).f3.f5) true _ ?side1 ?side2 ?side3 ?side4 A6.out).mono ?_); (case side1 => repeat (first | exact (Kd.C_below HR111_10.out HB.out) | (with_reducible refine Kd.C_alloc ?_ _) | (with_reducible refine Kd.C_drewN ?_ _) | (with_reducible refine Kd.C_drew ?_))); (case side2 => exact HC111_10.out); (case side3 => repeat (first | exact (Kd.C_below HR111_11.out HB.out) | (with_reducible refine Kd.C_alloc ?_ _) | (with_reducible refine Kd.C_drewN ?_ _) | (with_reducible refine Kd.C_drew ?_))); (case side4 => exact HC111_11.out); rintro e w8 ⟨rfl, hb⟩; have n0_ := Aside0.mk (below_step (by repeat (first | (with_reducible first | exact HB.out | apply below_alloc | apply pw_below_drewN | apply below_drew1) | exact HB.out)) hb); clear HB; have HB := n0_; clear n0_; (try clear hb); (try clear hb2); (try clear hk); (try clear hi)))
                go_roundg k1
                case measure => have := HK1.out; omega
                case rel => exact ⟨(wrap64 (x3_1 + 1)), (by first | rfl | (simp; done) | (simp [*]; done)), H', ⟨by have := HK1.out; omega⟩, ⟨by repeat (first | (with_reducible first | exact HB.out | apply below_alloc | apply pw_below_drewN | apply below_drew1) | exact HB.out)⟩⟩
              · replace c7 := Bool.eq_false_iff.mpr c7
                subst c7
                have H1 : (some false) = some r := by rw [if_neg (show ¬ (false = true) by decide)] at H; exact H
                clear H
                have H := H1
                clear H1
                obtain rfl := Option.some.inj H
                have p110 : 0 ≤ (x3_1 : Int) := of_decide_eq_true (by first | (with_reducible assumption) | assumption)
                have q110 : x3_1 < (l0.length : Int) := of_decide_eq_true (by first | (with_reducible assumption) | assumption)
                obtain ⟨ad110, A110_10, c110_10, A110_11, c110_11, e110, hx110_0, hx110_1, hx110_2, hx110_3, hx110_4, hx110_5, hx110_6, hx110_7, hx110_8, hx110_9, hx110_10, hx110_11, hx110_12, hx110_13, hx110_14, hl110_10, hi110_10, hl110_11, hi110_11⟩ := at_T76 HR0.out x3_1 p110 q110
                cases e110
                replace hx110_0 := (HB.out.cell (World.block_lt_of_cell? w _ hx110_0)).trans hx110_0
                replace hx110_1 := (HB.out.cell (World.block_lt_of_cell? w _ hx110_1)).trans hx110_1
                replace hx110_2 := (HB.out.cell (World.block_lt_of_cell? w _ hx110_2)).trans hx110_2
                replace hx110_3 := (HB.out.cell (World.block_lt_of_cell? w _ hx110_3)).trans hx110_3
                replace hx110_4 := (HB.out.cell (World.block_lt_of_cell? w _ hx110_4)).trans hx110_4
                replace hx110_5 := (HB.out.cell (World.block_lt_of_cell? w _ hx110_5)).trans hx110_5
                replace hx110_6 := (HB.out.cell (World.block_lt_of_cell? w _ hx110_6)).trans hx110_6
                replace hx110_7 := (HB.out.cell (World.block_lt_of_cell? w _ hx110_7)).trans hx110_7
                replace hx110_8 := (HB.out.cell (World.block_lt_of_cell? w _ hx110_8)).trans hx110_8
                replace hx110_9 := (HB.out.cell (World.block_lt_of_cell? w _ hx110_9)).trans hx110_9
                replace hx110_10 := (HB.out.cell (World.block_lt_of_cell? w _ hx110_10)).trans hx110_10
                replace hx110_11 := (HB.out.cell (World.block_lt_of_cell? w _ hx110_11)).trans hx110_11
                replace hx110_12 := (HB.out.cell (World.block_lt_of_cell? w _ hx110_12)).trans hx110_12
                replace hx110_13 := (HB.out.cell (World.block_lt_of_cell? w _ hx110_13)).trans hx110_13
                replace hx110_14 := (HB.out.cell (World.block_lt_of_cell? w _ hx110_14)).trans hx110_14
                have HR110_10 := Aside0.mk hi110_10
                have HC110_10 := Aside0.mk hl110_10
                clear hi110_10 hl110_10
                have HR110_11 := Aside0.mk hi110_11
                have HC110_11 := Aside0.mk hl110_11
                clear hi110_11 hl110_11
                replace p110 := eq_true p110
                replace q110 := eq_true q110
                have p111 : 0 ≤ (x3_1 : Int) := of_decide_eq_true (by first | (with_reducible assumption) | assumption)
                have q111 : x3_1 < (l0.length : Int) := of_decide_eq_true (by first | (with_reducible assumption) | assumption)
                obtain ⟨ad111, A111_10, c111_10, A111_11, c111_11, e111, hx111_0, hx111_1, hx111_2, hx111_3, hx111_4, hx111_5, hx111_6, hx111_7, hx111_8, hx111_9, hx111_10, hx111_11, hx111_12, hx111_13, hx111_14, hl111_10, hi111_10, hl111_11, hi111_11⟩ := at_T76 HR0.out x3_1 p111 q111
                obtain rfl : ad110 = ad111 := (by injection e111)
                replace hx111_0 := (HB.out.cell (World.block_lt_of_cell? w _ hx111_0)).trans hx111_0
                replace hx111_1 := (HB.out.cell (World.block_lt_of_cell? w _ hx111_1)).trans hx111_1
                replace hx111_2 := (HB.out.cell (World.block_lt_of_cell? w _ hx111_2)).trans hx111_2
                replace hx111_3 := (HB.out.cell (World.block_lt_of_cell? w _ hx111_3)).trans hx111_3
                replace hx111_4 := (HB.out.cell (World.block_lt_of_cell? w _ hx111_4)).trans hx111_4
                replace hx111_5 := (HB.out.cell (World.block_lt_of_cell? w _ hx111_5)).trans hx111_5
                replace hx111_6 := (HB.out.cell (World.block_lt_of_cell? w _ hx111_6)).trans hx111_6
                replace hx111_7 := (HB.out.cell (World.block_lt_of_cell? w _ hx111_7)).trans hx111_7
                replace hx111_8 := (HB.out.cell (World.block_lt_of_cell? w _ hx111_8)).trans hx111_8
                replace hx111_9 := (HB.out.cell (World.block_lt_of_cell? w _ hx111_9)).trans hx111_9
                replace hx111_10 := (HB.out.cell (World.block_lt_of_cell? w _ hx111_10)).trans hx111_10
                replace hx111_11 := (HB.out.cell (World.block_lt_of_cell? w _ hx111_11)).trans hx111_11
                replace hx111_12 := (HB.out.cell (World.block_lt_of_cell? w _ hx111_12)).trans hx111_12
                replace hx111_13 := (HB.out.cell (World.block_lt_of_cell? w _ hx111_13)).trans hx111_13
                replace hx111_14 := (HB.out.cell (World.block_lt_of_cell? w _ hx111_14)).trans hx111_14
                have HR111_10 := Aside0.mk hi111_10
                have HC111_10 := Aside0.mk hl111_10
                clear hi111_10 hl111_10
                have HR111_11 := Aside0.mk hi111_11
                have HC111_11 := Aside0.mk hl111_11
                clear hi111_11 hl111_11
                replace p111 := eq_true p111
                replace q111 := eq_true q111
                have ea_ := Option.some.inj (hx110_10.symm.trans hx111_10)
                injection ea_ with ea_ en_ ec_
                subst ea_
                subst ec_
                clear en_
                have ea_ := Option.some.inj (hx110_11.symm.trans hx111_11)
                injection ea_ with ea_ en_ ec_
                subst ea_
                subst ec_
                clear en_
                go_wp2_with (first | (go_at_call 89; (with_reducible refine (triremeref07_LightMachine.calls k1 ((rd_T76 l0 x3_1).f3.f0) ((rd_T76 l0 x3_1).f3.f1) ((rd_T76 l0 x3_1).f3.f2.f0) ((rd_T76 l0 x3_1).f3.f2.f1) ((rd_T76 l0 x3_1).f3.f2.f2) ((rd_T76 l0 x3_1).f3.f2.f3) ((rd_T76 l0 x3_1).f3.f2.f4) _ _ ((rd_T76 l0 x3_1).f3.f3) _ _ ((rd_T76 l0 x3_1).f3.f4) ((rd_T76 l0 x3_1).f3.f5) false _ ?side1 ?side2 ?side3 ?side4 A6.out).mono ?_); (case side1 => repeat (first | exact (Kd.C_below HR111_10.out HB.out) | (with_reducible refine Kd.C_alloc ?_ _) | (with_reducible refine Kd.C_drewN ?_ _) | (with_reducible refine Kd.C_drew ?_))); (case side2 => exact HC111_10.out); (case side3 => repeat (first | exact (Kd.C_below HR111_11.out HB.out) | (with_reducible refine Kd.C_alloc ?_ _) | (with_reducible refine Kd.C_drewN ?_ _) | (with_reducible refine Kd.C_drew ?_))); (case side4 => exact HC111_11.out); rintro e w9 ⟨rfl, hb⟩; have n0_ := Aside0.mk (below_step (by repeat (first | (with_reducible first | exact HB.out | apply below_alloc | apply pw_below_drewN | apply below_drew1) | exact HB.out)) hb); clear HB; have HB := n0_; clear n0_; (try clear hb); (try clear hb2); (try clear hk); (try clear hi)))
                go_ret
                exact ⟨by first | rfl | (simp [errW_none, errW_some] <;> rfl) | (simp [*, errW_none, errW_some] <;> rfl), by repeat (first | (with_reducible first | exact HB.out | apply below_alloc | apply pw_below_drewN | apply below_drew1) | exact HB.out)⟩
          · rw [if_neg c4] at H
            exact absurd H (by simp)
        · rw [if_neg c3] at H
          have c3b0 : decide (x3_1 < (l0.length : Int)) = false := decide_eq_false c3
          clear c3
          obtain rfl := Option.some.inj H
          go_wp2
          go_ret
          exact ⟨by first | rfl | (simp [errW_none, errW_some] <;> rfl) | (simp [*, errW_none, errW_some] <;> rfl), by repeat (first | (with_reducible first | exact HB.out | apply below_alloc | apply pw_below_drewN | apply below_drew1) | exact HB.out)⟩

/-! ### triremelaw35_light: function 53 -/
mutual
def triremelaw35_light.l0 : Nat → List (List (S135)) → Int → Option (Bool)
  | 0, _, _ => none
  | k + 1, x0, x3 => if x3 < (x0.length : Int) then (if 0 ≤ x3 then (if ((rd_L12 x0 x3).length : Int) > 60 then (some false) else (triremelaw35_light.l1 k x0 x3 0)) else (none)) else (some true)
def triremelaw35_light.l1 : Nat → List (List (S135)) → Int → Int → Option (Bool)
  | 0, _, _, _ => none
  | k + 1, x0, x3, x4 => if 0 ≤ x3 then (if x3 < (x0.length : Int) then (if x4 < ((rd_L12 x0 x3).length : Int) then (if 0 ≤ x4 then (if (((rd_T135 (rd_L12 x0 x3) x4).f1).size : Int) > 300 then (some false) else (if (((rd_T135 (rd_L12 x0 x3) x4).f0).size : Int) > 300 then (some false) else (triremelaw35_light.l1 k x0 x3 (wrap64 (x4 + 1))))) else (none)) else (triremelaw35_light.l0 k x0 (wrap64 (x3 + 1)))) else (none)) else (none)
end
def triremelaw35_light.f (k : Nat) (l0 : List (List (S135))) : Option (Bool) := if (l0.length : Int) > 30 then (some false) else (triremelaw35_light.l0 k l0 0)
theorem triremelaw35_light.mono_l : ∀ k, (∀ y0 y1, LeO (triremelaw35_light.l0 k y0 y1) (triremelaw35_light.l0 (k + 1) y0 y1)) ∧ (∀ y0 y1 y2, LeO (triremelaw35_light.l1 k y0 y1 y2) (triremelaw35_light.l1 (k + 1) y0 y1 y2))
  | 0 => ⟨fun _ _ r h => by simp [triremelaw35_light.l0] at h, fun _ _ _ r h => by simp [triremelaw35_light.l1] at h⟩
  | k + 1 => by
    obtain ⟨ih0, ih1⟩ := triremelaw35_light.mono_l k
    refine ⟨?_, ?_⟩
    · intro y0 y1
      unfold triremelaw35_light.l0
      repeat' first
      | (with_reducible exact ih0 _ _)
      | (with_reducible exact ih1 _ _ _)
      | (with_reducible exact LeO.refl _)
      | (with_reducible exact LeO.none _)
      | (with_reducible refine LeO.ite ?_ ?_)
      | (with_reducible refine LeO.bind ?_ (fun _ => ?_))
      | exact ih0 _ _
      | exact ih1 _ _ _
      | exact LeO.none _
      | refine LeO.ite ?_ ?_
      | refine LeO.bind ?_ (fun _ => ?_)
    · intro y0 y1 y2
      unfold triremelaw35_light.l1
      repeat' first
      | (with_reducible exact ih0 _ _)
      | (with_reducible exact ih1 _ _ _)
      | (with_reducible exact LeO.refl _)
      | (with_reducible exact LeO.none _)
      | (with_reducible refine LeO.ite ?_ ?_)
      | (with_reducible refine LeO.bind ?_ (fun _ => ?_))
      | exact ih0 _ _
      | exact ih1 _ _ _
      | exact LeO.none _
      | refine LeO.ite ?_ ?_
      | refine LeO.bind ?_ (fun _ => ?_)
theorem triremelaw35_light.mono : ∀ a0 k, LeO (triremelaw35_light.f k a0) (triremelaw35_light.f (k + 1) a0) := by
  intro a0 k
  obtain ⟨ih0, ih1⟩ := triremelaw35_light.mono_l k
  unfold triremelaw35_light.f
  repeat' first
      | (with_reducible exact ih0 _ _)
      | (with_reducible exact ih1 _ _ _)
      | (with_reducible exact LeO.refl _)
      | (with_reducible exact LeO.none _)
      | (with_reducible refine LeO.ite ?_ ?_)
      | (with_reducible refine LeO.bind ?_ (fun _ => ?_))
      | exact ih0 _ _
      | exact ih1 _ _ _
      | exact LeO.none _
      | refine LeO.ite ?_ ?_
      | refine LeO.bind ?_ (fun _ => ?_)
set_option maxHeartbeats 8000000 in
set_option maxRecDepth 100000 in
theorem triremelaw35_light.calls (k : Nat) (A0 : Option Addr) (c0 : Nat) (l0 : List (List (S135))) (r : Bool) (w : World) (hr0 : Kd.C (Kd.slice 135 k135) w A0 l0.length l0) (hc0 : l0.length ≤ c0) (h : triremelaw35_light.f k l0 = some r) :
    Calls Try.prog 53 #[.slice A0 l0.length c0] w fun e w' => e = .returned (.bool r) ∧ Drawn0 w w' := by
  have HR0 := Aside0.mk hr0
  have HC0 := Aside0.mk hc0
  clear hr0 hc0
  have H : (if (l0.length : Int) > 30 then (some false) else (triremelaw35_light.l0 k l0 0)) = some r := h
  clear h
  by_cases c2 : (l0.length : Int) > 30
  · rw [if_pos c2] at H
    have c2b0 : decide (30 < (l0.length : Int)) = true := decide_eq_true c2
    have c2b1 : decide (30 < l0.length) = true := decide_eq_true (by omega)
    clear c2
    obtain rfl := Option.some.inj H
    go_enter Try.func53, Try.ntmps53
    go_wp2
    go_ret
    exact ⟨by first | rfl | (simp; done) | (simp [*]; done), by repeat (first | exact Drawn0.refl _ | apply Drawn0.step)⟩
  · rw [if_neg c2] at H
    have c2b0 : decide (30 < (l0.length : Int)) = false := decide_eq_false c2
    have c2b1 : decide (30 < l0.length) = false := decide_eq_false (by omega)
    clear c2
    have H' := Aside0.mk H
    clear H
    go_enter Try.func53, Try.ntmps53
    go_wp2
    go_loopg [3] k (fun kq v3 w' => ∃ (x3_1 : Int), v3 = .int .i64 x3_1 ∧ Aside0 (triremelaw35_light.l0 kq l0 x3_1 = some r) ∧ Aside0 (kq ≤ k) ∧ Drawn0 w w')
    case atStart => exact ⟨(0), (by first | rfl | (simp; done) | (simp [*]; done)), H', ⟨Nat.le_refl _⟩, by repeat (first | exact Drawn0.refl _ | apply Drawn0.step)⟩
    case round =>
      clear H'
      try clear c2
      try clear c2b0
      try clear c2b1
      try clear p2
      obtain ⟨x3_1, rfl, HA, HK1, ⟨m1, rfl⟩⟩ := hrel
      cases gk with
      | zero => exact absurd HA.out (by simp [triremelaw35_light.l0])
      | succ k1 =>
        have H := HA.out
        clear HA
        simp only [triremelaw35_light.l0] at H
        by_cases c3 : x3_1 < (l0.length : Int)
        · rw [if_pos c3] at H
          have c3b0 : decide (x3_1 < (l0.length : Int)) = true := decide_eq_true c3
          clear c3
          by_cases c4 : 0 ≤ x3_1
          · rw [if_pos c4] at H
            have c4b0 : decide (0 ≤ x3_1) = true := decide_eq_true c4
            clear c4
            by_cases c5 : ((rd_L12 l0 x3_1).length : Int) > 60
            · rw [if_pos c5] at H
              have c5b0 : decide (60 < ((rd_L12 l0 x3_1).length : Int)) = true := decide_eq_true c5
              have c5b1 : decide (60 < (rd_L12 l0 x3_1).length) = true := decide_eq_true (by omega)
              clear c5
              obtain rfl := Option.some.inj H
              have p113 : 0 ≤ (x3_1 : Int) := of_decide_eq_true (by first | (with_reducible assumption) | assumption)
              have q113 : x3_1 < (l0.length : Int) := of_decide_eq_true (by first | (with_reducible assumption) | assumption)
              obtain ⟨ad113, A113_0, c113_0, e113, hx113_0, hl113_0, hi113_0⟩ := at_L12 HR0.out x3_1 p113 q113
              cases e113
              have HR113_0 := Aside0.mk hi113_0
              have HC113_0 := Aside0.mk hl113_0
              clear hi113_0 hl113_0
              replace p113 := eq_true p113
              replace q113 := eq_true q113
              go_wp2
              go_ret
              exact ⟨by first | rfl | (simp; done) | (simp [*]; done), by repeat (first | exact Drawn0.refl _ | apply Drawn0.step)⟩
            · rw [if_neg c5] at H
              have c5b0 : decide (60 < ((rd_L12 l0 x3_1).length : Int)) = false := decide_eq_false c5
              have c5b1 : decide (60 < (rd_L12 l0 x3_1).length) = false := decide_eq_false (by omega)
              clear c5
              have H' := Aside0.mk H
              clear H
              have p113 : 0 ≤ (x3_1 : Int) := of_decide_eq_true (by first | (with_reducible assumption) | assumption)
              have q113 : x3_1 < (l0.length : Int) := of_decide_eq_true (by first | (with_reducible assumption) | assumption)
              obtain ⟨ad113, A113_0, c113_0, e113, hx113_0, hl113_0, hi113_0⟩ := at_L12 HR0.out x3_1 p113 q113
              cases e113
              have HR113_0 := Aside0.mk hi113_0
              have HC113_0 := Aside0.mk hl113_0
              clear hi113_0 hl113_0
              replace p113 := eq_true p113
              replace q113 := eq_true q113
              go_wp2
              go_loopg [4] k1 (fun kq v4 w' => ∃ (x4_2 : Int), v4 = .int .i64 x4_2 ∧ Aside0 (triremelaw35_light.l1 kq l0 x3_1 x4_2 = some r) ∧ Aside0 (kq ≤ k1) ∧ Drawn0 w w')
              case atStart => exact ⟨(0), (by first | rfl | (simp; done) | (simp [*]; done)), H', ⟨Nat.le_refl _⟩, by repeat (first | exact Drawn0.refl _ | apply Drawn0.step)⟩
              case round =>
                clear H'
                try clear c1
                try clear p1
                try clear q1
                try clear hx1
                try clear c2
                try clear c2b0
                try clear c2b1
                try clear p2
                try clear c3
                try clear c3b0
                try clear c4
                try clear c4b0
                try clear c5
                try clear c5b0
                try clear c5b1
                try clear hx113_0
                try clear p113
                try clear p2
                try clear q113
                obtain ⟨x4_2, rfl, HA, HK2, ⟨m2, rfl⟩⟩ := hrel
                cases gk with
                | zero => exact absurd HA.out (by simp [triremelaw35_light.l1])
                | succ k2 =>
                  have H := HA.out
                  clear HA
                  simp only [triremelaw35_light.l1] at H
                  by_cases c6 : 0 ≤ x3_1
                  · rw [if_pos c6] at H
                    have c6b0 : decide (0 ≤ x3_1) = true := decide_eq_true c6
                    clear c6
                    by_cases c7 : x3_1 < (l0.length : Int)
                    · rw [if_pos c7] at H
                      have c7b0 : decide (x3_1 < (l0.length : Int)) = true := decide_eq_true c7
                      clear c7
                      by_cases c8 : x4_2 < ((rd_L12 l0 x3_1).length : Int)
                      · rw [if_pos c8] at H
                        have c8b0 : decide (x4_2 < ((rd_L12 l0 x3_1).length : Int)) = true := decide_eq_true c8
                        clear c8
                        by_cases c9 : 0 ≤ x4_2
                        · rw [if_pos c9] at H
                          have c9b0 : decide (0 ≤ x4_2) = true := decide_eq_true c9
                          clear c9
                          by_cases c10 : (((rd_T135 (rd_L12 l0 x3_1) x4_2).f1).size : Int) > 300
                          · rw [if_pos c10] at H
                            have c10b0 : decide (300 < (((rd_T135 (rd_L12 l0 x3_1) x4_2).f1).size : Int)) = true := decide_eq_true c10
                            have c10b1 : decide (300 < ((rd_T135 (rd_L12 l0 x3_1) x4_2).f1).size) = true := decide_eq_true (by omega)
                            clear c10
                            obtain rfl := Option.some.inj H
                            have p114 : 0 ≤ (x3_1 : Int) := of_decide_eq_true (by first | (with_reducible assumption) | assumption)
                            have q114 : x3_1 < (l0.length : Int) := of_decide_eq_true (by first | (with_reducible assumption) | assumption)
                            obtain ⟨ad114, A114_0, c114_0, e114, hx114_0, hl114_0, hi114_0⟩ := at_L12 HR0.out x3_1 p114 q114
                            obtain rfl : ad113 = ad114 := (by injection e114)
                            have HR114_0 := Aside0.mk hi114_0
                            have HC114_0 := Aside0.mk hl114_0
                            clear hi114_0 hl114_0
                            replace p114 := eq_true p114
                            replace q114 := eq_true q114
                            have p115 : 0 ≤ (x3_1 : Int) := of_decide_eq_true (by first | (with_reducible assumption) | assumption)
                            have q115 : x3_1 < (l0.length : Int) := of_decide_eq_true (by first | (with_reducible assumption) | assumption)
                            obtain ⟨ad115, A115_0, c115_0, e115, hx115_0, hl115_0, hi115_0⟩ := at_L12 HR0.out x3_1 p115 q115
                            obtain rfl : ad113 = ad115 := (by injection e115)
                            have HR115_0 := Aside0.mk hi115_0
                            have HC115_0 := Aside0.mk hl115_0
                            clear hi115_0 hl115_0
                            replace p115 := eq_true p115
                            replace q115 := eq_true q115
                            have ea_ := Option.some.inj (hx114_0.symm.trans hx115_0)
                            injection ea_ with ea_ en_ ec_
                            subst ea_
                            subst ec_
                            clear en_
                            have p116 : 0 ≤ (x4_2 : Int) := of_decide_eq_true (by first | (with_reducible assumption) | assumption)
                            have q116 : x4_2 < ((rd_L12 l0 x3_1).length : Int) := of_decide_eq_true (by first | (with_reducible assumption) | assumption)
                            obtain ⟨ad116, e116, hx116_0, hx116_1, hx116_2, hx116_3, hx116_4⟩ := at_T135 HR115_0.out x4_2 p116 q116
                            cases e116
                            replace p116 := eq_true p116
                            replace q116 := eq_true q116
                            go_wp2
                            go_ret
                            exact ⟨by first | rfl | (simp; done) | (simp [*]; done), by repeat (first | exact Drawn0.refl _ | apply Drawn0.step)⟩
                          · rw [if_neg c10] at H
                            have c10b0 : decide (300 < (((rd_T135 (rd_L12 l0 x3_1) x4_2).f1).size : Int)) = false := decide_eq_false c10
                            have c10b1 : decide (300 < ((rd_T135 (rd_L12 l0 x3_1) x4_2).f1).size) = false := decide_eq_false (by omega)
                            clear c10
                            by_cases c11 : (((rd_T135 (rd_L12 l0 x3_1) x4_2).f0).size : Int) > 300
                            · rw [if_pos c11] at H
                              have c11b0 : decide (300 < (((rd_T135 (rd_L12 l0 x3_1) x4_2).f0).size : Int)) = true := decide_eq_true c11
                              have c11b1 : decide (300 < ((rd_T135 (rd_L12 l0 x3_1) x4_2).f0).size) = true := decide_eq_true (by omega)
                              clear c11
                              obtain rfl := Option.some.inj H
                              have p114 : 0 ≤ (x3_1 : Int) := of_decide_eq_true (by first | (with_reducible assumption) | assumption)
                              have q114 : x3_1 < (l0.length : Int) := of_decide_eq_true (by first | (with_reducible assumption) | assumption)
                              obtain ⟨ad114, A114_0, c114_0, e114, hx114_0, hl114_0, hi114_0⟩ := at_L12 HR0.out x3_1 p114 q114
                              obtain rfl : ad113 = ad114 := (by injection e114)
                              have HR114_0 := Aside0.mk hi114_0
                              have HC114_0 := Aside0.mk hl114_0
                              clear hi114_0 hl114_0
                              replace p114 := eq_true p114
                              replace q114 := eq_true q114
                              have p115 : 0 ≤ (x3_1 : Int) := of_decide_eq_true (by first | (with_reducible assumption) | assumption)
                              have q115 : x3_1 < (l0.length : Int) := of_decide_eq_true (by first | (with_reducible assumption) | assumption)
                              obtain ⟨ad115, A115_0, c115_0, e115, hx115_0, hl115_0, hi115_0⟩ := at_L12 HR0.out x3_1 p115 q115
                              obtain rfl : ad113 = ad115 := (by injection e115)
                              have HR115_0 := Aside0.mk hi115_0
                              have HC115_0 := Aside0.mk hl115_0
                              clear hi115_0 hl115_0
                              replace p115 := eq_true p115
                              replace q115 := eq_true q115
                              have ea_ := Option.some.inj (hx114_0.symm.trans hx115_0)
                              injection ea_ with ea_ en_ ec_
                              subst ea_
                              subst ec_
                              clear en_
                              have p116 : 0 ≤ (x4_2 : Int) := of_decide_eq_true (by first | (with_reducible assumption) | assumption)
                              have q116 : x4_2 < ((rd_L12 l0 x3_1).length : Int) := of_decide_eq_true (by first | (with_reducible assumption) | assumption)
                              obtain ⟨ad116, e116, hx116_0, hx116_1, hx116_2, hx116_3, hx116_4⟩ := at_T135 HR115_0.out x4_2 p116 q116
                              cases e116
                              replace p116 := eq_true p116
                              replace q116 := eq_true q116
                              have p117 : 0 ≤ (x3_1 : Int) := of_decide_eq_true (by first | (with_reducible assumption) | assumption)
                              have q117 : x3_1 < (l0.length : Int) := of_decide_eq_true (by first | (with_reducible assumption) | assumption)
                              obtain ⟨ad117, A117_0, c117_0, e117, hx117_0, hl117_0, hi117_0⟩ := at_L12 HR0.out x3_1 p117 q117
                              obtain rfl : ad113 = ad117 := (by injection e117)
                              have HR117_0 := Aside0.mk hi117_0
                              have HC117_0 := Aside0.mk hl117_0
                              clear hi117_0 hl117_0
                              replace p117 := eq_true p117
                              replace q117 := eq_true q117
                              have ea_ := Option.some.inj (hx114_0.symm.trans hx117_0)
                              injection ea_ with ea_ en_ ec_
                              subst ea_
                              subst ec_
                              clear en_
                              have p118 : 0 ≤ (x4_2 : Int) := of_decide_eq_true (by first | (with_reducible assumption) | assumption)
                              have q118 : x4_2 < ((rd_L12 l0 x3_1).length : Int) := of_decide_eq_true (by first | (with_reducible assumption) | assumption)
                              obtain ⟨ad118, e118, hx118_0, hx118_1, hx118_2, hx118_3, hx118_4⟩ := at_T135 HR117_0.out x4_2 p118 q118
                              cases e118
                              replace p118 := eq_true p118
                              replace q118 := eq_true q118
                              go_wp2
                              go_ret
                              exact ⟨by first | rfl | (simp; done) | (simp [*]; done), by repeat (first | exact Drawn0.refl _ | apply Drawn0.step)⟩
                            · rw [if_neg c11] at H
                              have c11b0 : decide (300 < (((rd_T135 (rd_L12 l0 x3_1) x4_2).f0).size : Int)) = false := decide_eq_false c11
                              have c11b1 : decide (300 < ((rd_T135 (rd_L12 l0 x3_1) x4_2).f0).size) = false := decide_eq_false (by omega)
                              clear c11
                              have H' := Aside0.mk H
                              clear H
                              have p114 : 0 ≤ (x3_1 : Int) := of_decide_eq_true (by first | (with_reducible assumption) | assumption)
                              have q114 : x3_1 < (l0.length : Int) := of_decide_eq_true (by first | (with_reducible assumption) | assumption)
                              obtain ⟨ad114, A114_0, c114_0, e114, hx114_0, hl114_0, hi114_0⟩ := at_L12 HR0.out x3_1 p114 q114
                              obtain rfl : ad113 = ad114 := (by injection e114)
                              have HR114_0 := Aside0.mk hi114_0
                              have HC114_0 := Aside0.mk hl114_0
                              clear hi114_0 hl114_0
                              replace p114 := eq_true p114
                              replace q114 := eq_true q114
                              have p115 : 0 ≤ (x3_1 : Int) := of_decide_eq_true (by first | (with_reducible assumption) | assumption)
                              have q115 : x3_1 < (l0.length : Int) := of_decide_eq_true (by first | (with_reducible assumption) | assumption)
                              obtain ⟨ad115, A115_0, c115_0, e115, hx115_0, hl115_0, hi115_0⟩ := at_L12 HR0.out x3_1 p115 q115
                              obtain rfl : ad113 = ad115 := (by injection e115)
                              have HR115_0 := Aside0.mk hi115_0
                              have HC115_0 := Aside0.mk hl115_0
                              clear hi115_0 hl115_0
                              replace p115 := eq_true p115
                              replace q115 := eq_true q115
                              have ea_ := Option.some.inj (hx114_0.symm.trans hx115_0)
                              injection ea_ with ea_ en_ ec_
                              subst ea_
                              subst ec_
                              clear en_
                              have p116 : 0 ≤ (x4_2 : Int) := of_decide_eq_true (by first | (with_reducible assumption) | assumption)
                              have q116 : x4_2 < ((rd_L12 l0 x3_1).length : Int) := of_decide_eq_true (by first | (with_reducible assumption) | assumption)
                              obtain ⟨ad116, e116, hx116_0, hx116_1, hx116_2, hx116_3, hx116_4⟩ := at_T135 HR115_0.out x4_2 p116 q116
                              cases e116
                              replace p116 := eq_true p116
                              replace q116 := eq_true q116
                              have p117 : 0 ≤ (x3_1 : Int) := of_decide_eq_true (by first | (with_reducible assumption) | assumption)
                              have q117 : x3_1 < (l0.length : Int) := of_decide_eq_true (by first | (with_reducible assumption) | assumption)
                              obtain ⟨ad117, A117_0, c117_0, e117, hx117_0, hl117_0, hi117_0⟩ := at_L12 HR0.out x3_1 p117 q117
                              obtain rfl : ad113 = ad117 := (by injection e117)
                              have HR117_0 := Aside0.mk hi117_0
                              have HC117_0 := Aside0.mk hl117_0
                              clear hi117_0 hl117_0
                              replace p117 := eq_true p117
                              replace q117 := eq_true q117
                              have ea_ := Option.some.inj (hx114_0.symm.trans hx117_0)
                              injection ea_ with ea_ en_ ec_
                              subst ea_
                              subst ec_
                              clear en_
                              have p118 : 0 ≤ (x4_2 : Int) := of_decide_eq_true (by first | (with_reducible assumption) | assumption)
                              have q118 : x4_2 < ((rd_L12 l0 x3_1).length : Int) := of_decide_eq_true (by first | (with_reducible assumption) | assumption)
                              obtain ⟨ad118, e118, hx118_0, hx118_1, hx118_2, hx118_3, hx118_4⟩ := at_T135 HR117_0.out x4_2 p118 q118
                              cases e118
                              replace p118 := eq_true p118
                              replace q118 := eq_true q118
                              go_wp2
                              go_roundg k2
                              case measure => have := HK1.out; have := HK2.out; omega
                              case rel => exact ⟨(wrap64 (x4_2 + 1)), (by first | rfl | (simp; done) | (simp [*]; done)), H', ⟨by have := HK1.out; have := HK2.out; omega⟩, by repeat (first | exact Drawn0.refl _ | apply Drawn0.step)⟩
                        · rw [if_neg c9] at H
                          exact absurd H (by simp)
                      · rw [if_neg c8] at H
                        have c8b0 : decide (x4_2 < ((rd_L12 l0 x3_1).length : Int)) = false := decide_eq_false c8
                        clear c8
                        have H' := Aside0.mk H
                        clear H
                        have p114 : 0 ≤ (x3_1 : Int) := of_decide_eq_true (by first | (with_reducible assumption) | assumption)
                        have q114 : x3_1 < (l0.length : Int) := of_decide_eq_true (by first | (with_reducible assumption) | assumption)
                        obtain ⟨ad114, A114_0, c114_0, e114, hx114_0, hl114_0, hi114_0⟩ := at_L12 HR0.out x3_1 p114 q114
                        obtain rfl : ad113 = ad114 := (by injection e114)
                        have HR114_0 := Aside0.mk hi114_0
                        have HC114_0 := Aside0.mk hl114_0
                        clear hi114_0 hl114_0
                        replace p114 := eq_true p114
                        replace q114 := eq_true q114
                        go_wp2
                        go_roundg k2
                        case measure => have := HK1.out; have := HK2.out; omega
                        case rel => exact ⟨(wrap64 (x3_1 + 1)), (by first | rfl | (simp; done) | (simp [*]; done)), H', ⟨by have := HK1.out; have := HK2.out; omega⟩, by repeat (first | exact Drawn0.refl _ | apply Drawn0.step)⟩
                    · rw [if_neg c7] at H
                      exact absurd H (by simp)
                  · rw [if_neg c6] at H
                    exact absurd H (by simp)
          · rw [if_neg c4] at H
            exact absurd H (by simp)
        · rw [if_neg c3] at H
          have c3b0 : decide (x3_1 < (l0.length : Int)) = false := decide_eq_false c3
          clear c3
          obtain rfl := Option.some.inj H
          go_wp2
          go_ret
          exact ⟨by first | rfl | (simp; done) | (simp [*]; done), by repeat (first | exact Drawn0.refl _ | apply Drawn0.step)⟩

end Go.Proofs.Ytdpchfifaidamaa.U
