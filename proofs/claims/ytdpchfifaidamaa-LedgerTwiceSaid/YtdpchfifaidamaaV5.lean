/- After the kit's print of LedgerTells, part 5: same definitions and proofs, fewer words imported (wip/gen_v.py). No condition. -/
import Derived.Test.YtdpchfifaidamaaV0
import Derived.Test.YtdpchfifaidamaaV4
namespace Go.Proofs.Ytdpchfifaidamaa.PLedgerTells
open Go.RowKit Go.Proofs.YtdpchfifaidamaaW.PrintWords Go.Proofs.YtdpchfifaidamaaW.PrintLast
set_option linter.unusedVariables false
set_option linter.unusedSimpArgs false

/-! ### triremeref01_plain: function 134 -/
def triremeref01_plain.f (a0 : Int) : Option (Bool) := if a0 > 32 then (if a0 = 127 then (some false) else (if a0 = 40 then (some false) else (if a0 = 41 then (some false) else (if a0 = 34 then (some false) else (some (a0 != 59)))))) else (some false)
set_option maxHeartbeats 8000000 in
set_option maxRecDepth 100000 in
theorem triremeref01_plain.calls (a0 : Int) (r : Bool) (w : World) (h : triremeref01_plain.f a0 = some r) :
    Calls Try.prog 134 #[.int .i64 a0] w fun e w' => e = .returned (.bool r) ∧ Drawn0 w w' := by
  have H : (if a0 > 32 then (if a0 = 127 then (some false) else (if a0 = 40 then (some false) else (if a0 = 41 then (some false) else (if a0 = 34 then (some false) else (some (a0 != 59)))))) else (some false)) = some r := h
  clear h
  by_cases c2 : a0 > 32
  · rw [if_pos c2] at H
    have c2b0 : decide (32 < a0) = true := decide_eq_true c2
    clear c2
    by_cases c3 : a0 = 127
    · rw [if_pos c3] at H
      have c3b0 : (a0 == 127) = true := beq_iff_eq.mpr c3
      have c3b1 : (a0 != 127) = false := bne_eq_false_iff_eq.mpr c3
      clear c3
      obtain rfl := Option.some.inj H
      go_enter Try.func134, Try.ntmps134
      go_wp2
      go_ret
      exact ⟨by first | rfl | (simp; done) | (simp [*]; done), by repeat (first | exact Drawn0.refl _ | apply Drawn0.step)⟩
    · rw [if_neg c3] at H
      have c3b0 : (a0 == 127) = false := beq_eq_false_iff_ne.mpr c3
      have c3b1 : (a0 != 127) = true := bne_iff_ne.mpr c3
      by_cases c4 : a0 = 40
      · rw [if_pos c4] at H
        have c4b0 : (a0 == 40) = true := beq_iff_eq.mpr c4
        have c4b1 : (a0 != 40) = false := bne_eq_false_iff_eq.mpr c4
        clear c4
        obtain rfl := Option.some.inj H
        go_enter Try.func134, Try.ntmps134
        go_wp2
        go_ret
        exact ⟨by first | rfl | (simp; done) | (simp [*]; done), by repeat (first | exact Drawn0.refl _ | apply Drawn0.step)⟩
      · rw [if_neg c4] at H
        have c4b0 : (a0 == 40) = false := beq_eq_false_iff_ne.mpr c4
        have c4b1 : (a0 != 40) = true := bne_iff_ne.mpr c4
        by_cases c5 : a0 = 41
        · rw [if_pos c5] at H
          have c5b0 : (a0 == 41) = true := beq_iff_eq.mpr c5
          have c5b1 : (a0 != 41) = false := bne_eq_false_iff_eq.mpr c5
          clear c5
          obtain rfl := Option.some.inj H
          go_enter Try.func134, Try.ntmps134
          go_wp2
          go_ret
          exact ⟨by first | rfl | (simp; done) | (simp [*]; done), by repeat (first | exact Drawn0.refl _ | apply Drawn0.step)⟩
        · rw [if_neg c5] at H
          have c5b0 : (a0 == 41) = false := beq_eq_false_iff_ne.mpr c5
          have c5b1 : (a0 != 41) = true := bne_iff_ne.mpr c5
          by_cases c6 : a0 = 34
          · rw [if_pos c6] at H
            have c6b0 : (a0 == 34) = true := beq_iff_eq.mpr c6
            have c6b1 : (a0 != 34) = false := bne_eq_false_iff_eq.mpr c6
            clear c6
            obtain rfl := Option.some.inj H
            go_enter Try.func134, Try.ntmps134
            go_wp2
            go_ret
            exact ⟨by first | rfl | (simp; done) | (simp [*]; done), by repeat (first | exact Drawn0.refl _ | apply Drawn0.step)⟩
          · rw [if_neg c6] at H
            have c6b0 : (a0 == 34) = false := beq_eq_false_iff_ne.mpr c6
            have c6b1 : (a0 != 34) = true := bne_iff_ne.mpr c6
            obtain rfl := Option.some.inj H
            go_enter Try.func134, Try.ntmps134
            go_wp2
            go_ret
            exact ⟨by first | rfl | (simp; done) | (simp [*]; done), by repeat (first | exact Drawn0.refl _ | apply Drawn0.step)⟩
  · rw [if_neg c2] at H
    have c2b0 : decide (32 < a0) = false := decide_eq_false c2
    clear c2
    obtain rfl := Option.some.inj H
    go_enter Try.func134, Try.ntmps134
    go_wp2
    go_ret
    exact ⟨by first | rfl | (simp; done) | (simp [*]; done), by repeat (first | exact Drawn0.refl _ | apply Drawn0.step)⟩

/-! ### triremeref01_Word: function 112 -/
def triremeref01_Word.l0 : Nat → ByteArray → Int → Int → Option (Bool)
  | 0, _, _, _ => none
  | k + 1, x0, x3, x4 => if x4 < (x0.size : Int) then ((triremeref01_Rune.f k x0 x4).bind fun bt142 => (if bt142.2 = 0 then (some false) else ((triremeref01_plain.f bt142.1).bind fun t144 => (if t144 = true then (triremeref01_Word.l0 k x0 (wrap64 (x3 + 1)) (wrap64 (x4 + bt142.2))) else (some false))))) else (if x3 ≥ 1 then (some (decide (x3 ≤ 64))) else (some false))
def triremeref01_Word.f (k : Nat) (a0 : ByteArray) : Option (Bool) := triremeref01_Word.l0 k a0 0 0
theorem triremeref01_Word.mono_l : ∀ k, (∀ y0 y1 y2, LeO (triremeref01_Word.l0 k y0 y1 y2) (triremeref01_Word.l0 (k + 1) y0 y1 y2))
  | 0 => fun _ _ _ r h => by simp [triremeref01_Word.l0] at h
  | k + 1 => by
    have ih0 := triremeref01_Word.mono_l k
    · intro y0 y1 y2
      unfold triremeref01_Word.l0
      repeat' first
      | (with_reducible exact ih0 _ _ _)
      | (with_reducible exact triremeref01_Rune.mono _ _ _)
      | (with_reducible exact LeO.refl _)
      | (with_reducible exact LeO.none _)
      | (with_reducible refine LeO.ite ?_ ?_)
      | (with_reducible refine LeO.bind ?_ (fun _ => ?_))
      | exact ih0 _ _ _
      | exact triremeref01_Rune.mono _ _ _
      | exact LeO.none _
      | refine LeO.ite ?_ ?_
      | refine LeO.bind ?_ (fun _ => ?_)
theorem triremeref01_Word.mono : ∀ a0 k, LeO (triremeref01_Word.f k a0) (triremeref01_Word.f (k + 1) a0) := by
  intro a0 k
  have ih0 := triremeref01_Word.mono_l k
  unfold triremeref01_Word.f
  repeat' first
      | (with_reducible exact ih0 _ _ _)
      | (with_reducible exact triremeref01_Rune.mono _ _ _)
      | (with_reducible exact LeO.refl _)
      | (with_reducible exact LeO.none _)
      | (with_reducible refine LeO.ite ?_ ?_)
      | (with_reducible refine LeO.bind ?_ (fun _ => ?_))
      | exact ih0 _ _ _
      | exact triremeref01_Rune.mono _ _ _
      | exact LeO.none _
      | refine LeO.ite ?_ ?_
      | refine LeO.bind ?_ (fun _ => ?_)
set_option maxHeartbeats 8000000 in
set_option maxRecDepth 100000 in
theorem triremeref01_Word.calls (k : Nat) (a0 : ByteArray) (r : Bool) (w : World) (h : triremeref01_Word.f k a0 = some r) :
    Calls Try.prog 112 #[.string a0] w fun e w' => e = .returned (.bool r) ∧ Drawn0 w w' := by
  have H : (triremeref01_Word.l0 k a0 0 0) = some r := h
  clear h
  have H' := Aside0.mk H
  clear H
  go_enter Try.func112, Try.ntmps112
  go_wp2
  go_loopg [3, 4] k (fun kq v3 v4 w' => ∃ (x3_1 : Int) (x4_1 : Int), v3 = .int .i64 x3_1 ∧ v4 = .int .i64 x4_1 ∧ Aside0 (triremeref01_Word.l0 kq a0 x3_1 x4_1 = some r) ∧ Aside0 (kq ≤ k) ∧ Drawn0 w w')
  case atStart => exact ⟨(0), (0), (by first | rfl | (simp; done) | (simp [*]; done)), (by first | rfl | (simp; done) | (simp [*]; done)), H', ⟨Nat.le_refl _⟩, by repeat (first | exact Drawn0.refl _ | apply Drawn0.step)⟩
  case round =>
    clear H'
    try clear c1
    obtain ⟨x3_1, x4_1, rfl, rfl, HA, HK1, ⟨m1, rfl⟩⟩ := hrel
    cases gk with
    | zero => exact absurd HA.out (by simp [triremeref01_Word.l0])
    | succ k1 =>
      have H := HA.out
      clear HA
      simp only [triremeref01_Word.l0] at H
      by_cases c2 : x4_1 < (a0.size : Int)
      · rw [if_pos c2] at H
        have c2b0 : decide (x4_1 < (a0.size : Int)) = true := decide_eq_true c2
        clear c2
        replace H := Option.bind_eq_some_iff.mp H
        obtain ⟨⟨t142, t143⟩, A30, H⟩ := H
        replace H : (if t143 = 0 then (some false) else ((triremeref01_plain.f t142).bind fun t144 => (if t144 = true then (triremeref01_Word.l0 k1 a0 (wrap64 (x3_1 + 1)) (wrap64 (x4_1 + t143))) else (some false)))) = some r := H
        have A3 := Aside0.mk A30
        clear A30
        by_cases c4 : t143 = 0
        · rw [if_pos c4] at H
          have c4b0 : (t143 == 0) = true := beq_iff_eq.mpr c4
          have c4b1 : (t143 != 0) = false := bne_eq_false_iff_eq.mpr c4
          clear c4
          obtain rfl := Option.some.inj H
          go_wp2_with (first | ((with_reducible refine gate_callee (f := 133) rfl ?_); refine goesL_ (some 14) rfl rfl Try.func133 (by kernel_rfl) rfl #[.string a0, .int .i64 x4_1] rfl (by (try simp only [List.map_toArray, List.map_cons, List.map_nil]); first | done | rfl | (simp only [List.length_drop, List.length_take]; rfl)) ?_; (with_reducible refine (triremeref01_Rune.calls k1 a0 x4_1 t142 t143 _ A3.out).mono ?_); rintro e w' ⟨rfl, ⟨nd, rfl⟩⟩; refine ⟨_, rfl, ?_⟩))
          go_ret
          exact ⟨by first | rfl | (simp; done) | (simp [*]; done), by repeat (first | exact Drawn0.refl _ | apply Drawn0.step)⟩
        · rw [if_neg c4] at H
          have c4b0 : (t143 == 0) = false := beq_eq_false_iff_ne.mpr c4
          have c4b1 : (t143 != 0) = true := bne_iff_ne.mpr c4
          replace H := Option.bind_eq_some_iff.mp H
          obtain ⟨t144, A50, H⟩ := H
          replace H : (if t144 = true then (triremeref01_Word.l0 k1 a0 (wrap64 (x3_1 + 1)) (wrap64 (x4_1 + t143))) else (some false)) = some r := H
          have A5 := Aside0.mk A50
          clear A50
          by_cases c6 : t144 = true
          · subst c6
            have H1 : (triremeref01_Word.l0 k1 a0 (wrap64 (x3_1 + 1)) (wrap64 (x4_1 + t143))) = some r := by rw [if_pos rfl] at H; exact H
            clear H
            have H := H1
            clear H1
            have H' := Aside0.mk H
            clear H
            go_wp2_with (first | ((with_reducible refine gate_callee (f := 133) rfl ?_); refine goesL_ (some 14) rfl rfl Try.func133 (by kernel_rfl) rfl #[.string a0, .int .i64 x4_1] rfl (by (try simp only [List.map_toArray, List.map_cons, List.map_nil]); first | done | rfl | (simp only [List.length_drop, List.length_take]; rfl)) ?_; (with_reducible refine (triremeref01_Rune.calls k1 a0 x4_1 t142 t143 _ A3.out).mono ?_); rintro e w' ⟨rfl, ⟨nd, rfl⟩⟩; refine ⟨_, rfl, ?_⟩) | (go_at_call 134; (with_reducible refine (triremeref01_plain.calls t142 true _ A5.out).mono ?_); rintro e w' ⟨rfl, ⟨nd, rfl⟩⟩))
            go_roundg k1
            case measure => have := HK1.out; omega
            case rel => exact ⟨(wrap64 (x3_1 + 1)), (wrap64 (x4_1 + t143)), (by first | rfl | (simp; done) | (simp [*]; done)), (by first | rfl | (simp; done) | (simp [*]; done)), H', ⟨by have := HK1.out; omega⟩, by repeat (first | exact Drawn0.refl _ | apply Drawn0.step)⟩
          · replace c6 := Bool.eq_false_iff.mpr c6
            subst c6
            have H1 : (some false) = some r := by rw [if_neg (show ¬ (false = true) by decide)] at H; exact H
            clear H
            have H := H1
            clear H1
            obtain rfl := Option.some.inj H
            go_wp2_with (first | ((with_reducible refine gate_callee (f := 133) rfl ?_); refine goesL_ (some 14) rfl rfl Try.func133 (by kernel_rfl) rfl #[.string a0, .int .i64 x4_1] rfl (by (try simp only [List.map_toArray, List.map_cons, List.map_nil]); first | done | rfl | (simp only [List.length_drop, List.length_take]; rfl)) ?_; (with_reducible refine (triremeref01_Rune.calls k1 a0 x4_1 t142 t143 _ A3.out).mono ?_); rintro e w' ⟨rfl, ⟨nd, rfl⟩⟩; refine ⟨_, rfl, ?_⟩) | (go_at_call 134; (with_reducible refine (triremeref01_plain.calls t142 false _ A5.out).mono ?_); rintro e w' ⟨rfl, ⟨nd, rfl⟩⟩))
            go_ret
            exact ⟨by first | rfl | (simp; done) | (simp [*]; done), by repeat (first | exact Drawn0.refl _ | apply Drawn0.step)⟩
      · rw [if_neg c2] at H
        have c2b0 : decide (x4_1 < (a0.size : Int)) = false := decide_eq_false c2
        clear c2
        by_cases c7 : x3_1 ≥ 1
        · rw [if_pos c7] at H
          have c7b0 : decide (1 ≤ x3_1) = true := decide_eq_true c7
          clear c7
          obtain rfl := Option.some.inj H
          go_wp2
          go_ret
          exact ⟨by first | rfl | (simp; done) | (simp [*]; done), by repeat (first | exact Drawn0.refl _ | apply Drawn0.step)⟩
        · rw [if_neg c7] at H
          have c7b0 : decide (1 ≤ x3_1) = false := decide_eq_false c7
          clear c7
          obtain rfl := Option.some.inj H
          go_wp2
          go_ret
          exact ⟨by first | rfl | (simp; done) | (simp [*]; done), by repeat (first | exact Drawn0.refl _ | apply Drawn0.step)⟩

/-! ### triremeref07_in: function 125 -/
def triremeref07_in.f (a0 : Int) (a1 : Int) (a2 : Int) : Option (Bool) := if a0 ≥ a1 then (some (decide (a0 ≤ a2))) else (some false)
set_option maxHeartbeats 8000000 in
set_option maxRecDepth 100000 in
theorem triremeref07_in.calls (a0 : Int) (a1 : Int) (a2 : Int) (r : Bool) (w : World) (h : triremeref07_in.f a0 a1 a2 = some r) :
    Calls Try.prog 125 #[.int .i64 a0, .int .i64 a1, .int .i64 a2] w fun e w' => e = .returned (.bool r) ∧ Drawn0 w w' := by
  have H : (if a0 ≥ a1 then (some (decide (a0 ≤ a2))) else (some false)) = some r := h
  clear h
  by_cases c4 : a0 ≥ a1
  · rw [if_pos c4] at H
    have c4b0 : decide (a1 ≤ a0) = true := decide_eq_true c4
    clear c4
    obtain rfl := Option.some.inj H
    go_enter Try.func125, Try.ntmps125
    go_wp2
    go_ret
    exact ⟨by first | rfl | (simp; done) | (simp [*]; done), by repeat (first | exact Drawn0.refl _ | apply Drawn0.step)⟩
  · rw [if_neg c4] at H
    have c4b0 : decide (a1 ≤ a0) = false := decide_eq_false c4
    clear c4
    obtain rfl := Option.some.inj H
    go_enter Try.func125, Try.ntmps125
    go_wp2
    go_ret
    exact ⟨by first | rfl | (simp; done) | (simp [*]; done), by repeat (first | exact Drawn0.refl _ | apply Drawn0.step)⟩

/-! ### triremeref05_maybe: function 113 -/
def triremeref05_maybe.f (k : Nat) (a0 : ByteArray) : Option (Bool) := if a0.toList = ([] : List UInt8) then (some true) else ((triremeref01_Word.f k a0).bind fun t145 => (some t145))
theorem triremeref05_maybe.mono : ∀ a0 k, LeO (triremeref05_maybe.f k a0) (triremeref05_maybe.f (k + 1) a0) := by
  intro a0 k
  unfold triremeref05_maybe.f
  repeat' first
      | (with_reducible exact triremeref01_Word.mono _ _)
      | (with_reducible exact LeO.refl _)
      | (with_reducible exact LeO.none _)
      | (with_reducible refine LeO.ite ?_ ?_)
      | (with_reducible refine LeO.bind ?_ (fun _ => ?_))
      | exact triremeref01_Word.mono _ _
      | exact LeO.none _
      | refine LeO.ite ?_ ?_
      | refine LeO.bind ?_ (fun _ => ?_)
set_option maxHeartbeats 8000000 in
set_option maxRecDepth 100000 in
theorem triremeref05_maybe.calls (k : Nat) (a0 : ByteArray) (r : Bool) (w : World) (h : triremeref05_maybe.f k a0 = some r) :
    Calls Try.prog 113 #[.string a0] w fun e w' => e = .returned (.bool r) ∧ Drawn0 w w' := by
  have H : (if a0.toList = ([] : List UInt8) then (some true) else ((triremeref01_Word.f k a0).bind fun t145 => (some t145))) = some r := h
  clear h
  by_cases c2 : a0.toList = ([] : List UInt8)
  · rw [if_pos c2] at H
    have c2b0 : (a0.toList == ([] : List UInt8)) = true := beq_iff_eq.mpr c2
    have c2b1 : (a0.toList != ([] : List UInt8)) = false := bne_eq_false_iff_eq.mpr c2
    clear c2
    obtain rfl := Option.some.inj H
    go_enter Try.func113, Try.ntmps113
    go_wp2
    go_ret
    exact ⟨by first | rfl | (simp; done) | (simp [*]; done), by repeat (first | exact Drawn0.refl _ | apply Drawn0.step)⟩
  · rw [if_neg c2] at H
    have c2b0 : (a0.toList == ([] : List UInt8)) = false := beq_eq_false_iff_ne.mpr c2
    have c2b1 : (a0.toList != ([] : List UInt8)) = true := bne_iff_ne.mpr c2
    replace H := Option.bind_eq_some_iff.mp H
    obtain ⟨t145, A30, H⟩ := H
    replace H : (some t145) = some r := H
    have A3 := Aside0.mk A30
    clear A30
    obtain rfl := Option.some.inj H
    go_enter Try.func113, Try.ntmps113
    go_wp2_with (first | (go_at_call 112; (with_reducible refine (triremeref01_Word.calls k a0 t145 _ A3.out).mono ?_); rintro e w' ⟨rfl, ⟨nd, rfl⟩⟩))
    go_ret
    exact ⟨by first | rfl | (simp; done) | (simp [*]; done), by repeat (first | exact Drawn0.refl _ | apply Drawn0.step)⟩

/-! ### triremeref05_Less: function 114 -/
mutual
def triremeref05_Less.l0 : Nat → ByteArray → ByteArray → Int → Option (Bool)
  | 0, _, _, _ => none
  | k + 1, x0, x1, x5 => if x5 < (x0.size : Int) then (triremeref05_Less.j1 k x0 x1 x5 (decide (x5 < (x1.size : Int)))) else (triremeref05_Less.j1 k x0 x1 x5 false)
def triremeref05_Less.j1 : Nat → ByteArray → ByteArray → Int → Bool → Option (Bool)
  | 0, _, _, _, _ => none
  | k + 1, x0, x1, x5, x15 => if x15 = true then (if 0 ≤ x5 then (if x5 < (x0.size : Int) then (if x5 < (x1.size : Int) then (if (bt x0 x5) = (bt x1 x5) then (triremeref05_Less.l0 k x0 x1 (wrap64 (x5 + 1))) else (some (decide ((bt x0 x5) < (bt x1 x5))))) else (none)) else (none)) else (none)) else (some (decide ((x0.size : Int) < (x1.size : Int))))
end
def triremeref05_Less.f (k : Nat) (a0 : ByteArray) (a1 : ByteArray) : Option (Bool) := triremeref05_Less.l0 k a0 a1 0
theorem triremeref05_Less.mono_l : ∀ k, (∀ y0 y1 y2, LeO (triremeref05_Less.l0 k y0 y1 y2) (triremeref05_Less.l0 (k + 1) y0 y1 y2)) ∧ (∀ y0 y1 y2 y3, LeO (triremeref05_Less.j1 k y0 y1 y2 y3) (triremeref05_Less.j1 (k + 1) y0 y1 y2 y3))
  | 0 => ⟨fun _ _ _ r h => by simp [triremeref05_Less.l0] at h, fun _ _ _ _ r h => by simp [triremeref05_Less.j1] at h⟩
  | k + 1 => by
    obtain ⟨ih0, ih1⟩ := triremeref05_Less.mono_l k
    refine ⟨?_, ?_⟩
    · intro y0 y1 y2
      unfold triremeref05_Less.l0
      repeat' first
      | (with_reducible exact ih0 _ _ _)
      | (with_reducible exact ih1 _ _ _ _)
      | (with_reducible exact LeO.refl _)
      | (with_reducible exact LeO.none _)
      | (with_reducible refine LeO.ite ?_ ?_)
      | (with_reducible refine LeO.bind ?_ (fun _ => ?_))
      | exact ih0 _ _ _
      | exact ih1 _ _ _ _
      | exact LeO.none _
      | refine LeO.ite ?_ ?_
      | refine LeO.bind ?_ (fun _ => ?_)
    · intro y0 y1 y2 y3
      unfold triremeref05_Less.j1
      repeat' first
      | (with_reducible exact ih0 _ _ _)
      | (with_reducible exact ih1 _ _ _ _)
      | (with_reducible exact LeO.refl _)
      | (with_reducible exact LeO.none _)
      | (with_reducible refine LeO.ite ?_ ?_)
      | (with_reducible refine LeO.bind ?_ (fun _ => ?_))
      | exact ih0 _ _ _
      | exact ih1 _ _ _ _
      | exact LeO.none _
      | refine LeO.ite ?_ ?_
      | refine LeO.bind ?_ (fun _ => ?_)
theorem triremeref05_Less.mono : ∀ a0 a1 k, LeO (triremeref05_Less.f k a0 a1) (triremeref05_Less.f (k + 1) a0 a1) := by
  intro a0 a1 k
  obtain ⟨ih0, ih1⟩ := triremeref05_Less.mono_l k
  unfold triremeref05_Less.f
  repeat' first
      | (with_reducible exact ih0 _ _ _)
      | (with_reducible exact ih1 _ _ _ _)
      | (with_reducible exact LeO.refl _)
      | (with_reducible exact LeO.none _)
      | (with_reducible refine LeO.ite ?_ ?_)
      | (with_reducible refine LeO.bind ?_ (fun _ => ?_))
      | exact ih0 _ _ _
      | exact ih1 _ _ _ _
      | exact LeO.none _
      | refine LeO.ite ?_ ?_
      | refine LeO.bind ?_ (fun _ => ?_)
set_option maxHeartbeats 8000000 in
set_option maxRecDepth 100000 in
theorem triremeref05_Less.calls (k : Nat) (a0 : ByteArray) (a1 : ByteArray) (r : Bool) (w : World) (h : triremeref05_Less.f k a0 a1 = some r) :
    Calls Try.prog 114 #[.string a0, .string a1] w fun e w' => e = .returned (.bool r) ∧ Drawn0 w w' := by
  have H : (triremeref05_Less.l0 k a0 a1 0) = some r := h
  clear h
  have H' := Aside0.mk H
  clear H
  go_enter Try.func114, Try.ntmps114
  go_wp2
  repeat (go_quiet (fail); try go_wp2)
  go_loopg [5] k (fun kq v5 w' => ∃ (x5_1 : Int), v5 = .int .i64 x5_1 ∧ Aside0 (triremeref05_Less.l0 kq a0 a1 x5_1 = some r) ∧ Aside0 (kq ≤ k) ∧ Drawn0 w w')
  case atStart => exact ⟨(0), (by first | rfl | (simp; done) | (simp [*]; done)), H', ⟨Nat.le_refl _⟩, by repeat (first | exact Drawn0.refl _ | apply Drawn0.step)⟩
  case round =>
    clear H'
    try clear c1
    try clear p2
    obtain ⟨x5_1, rfl, HA, HK1, ⟨m1, rfl⟩⟩ := hrel
    cases gk with
    | zero => exact absurd HA.out (by simp [triremeref05_Less.l0])
    | succ k1 =>
      have H := HA.out
      clear HA
      simp only [triremeref05_Less.l0] at H
      have HC3 := Aside0.mk H
      clear H
      go_upto_region 2 with (fail)
      repeat (go_quiet (fail); go_upto_region 2 with (fail))
      go_cut [15] (fun v15 wc => ∃ (kq : Nat) (x15_2 : Bool), v15 = .bool x15_2 ∧ Aside0 (triremeref05_Less.j1 kq a0 a1 x5_1 x15_2 = some r) ∧ Aside0 (kq ≤ k1) ∧ Drawn0 w wc)
      case first =>
        have H := HC3.out
        clear HC3
        by_cases c4 : x5_1 < (a0.size : Int)
        · rw [if_pos c4] at H
          have c4b0 : decide (x5_1 < (a0.size : Int)) = true := decide_eq_true c4
          clear c4
          (first | rw [c4b0] | (simp only [i64_w, i32_w]; rw [c4b0]) | skip)
          have H' := Aside0.mk H
          clear H
          go_wp2
          repeat (go_quiet (fail); try go_wp2)
          go_meet
          case rel => exact ⟨_, (decide (x5_1 < (a1.size : Int))), (by first | rfl | (simp; done) | (simp [*]; done)), H', ⟨by have := HK1.out; first | omega | exact Nat.le_refl _⟩, by repeat (first | exact Drawn0.refl _ | apply Drawn0.step)⟩
        · rw [if_neg c4] at H
          have c4b0 : decide (x5_1 < (a0.size : Int)) = false := decide_eq_false c4
          clear c4
          (first | rw [c4b0] | (simp only [i64_w, i32_w]; rw [c4b0]) | skip)
          have H' := Aside0.mk H
          clear H
          go_wp2
          repeat (go_quiet (fail); try go_wp2)
          go_meet
          case rel => exact ⟨_, (false), (by first | rfl | (simp; done) | (simp [*]; done)), H', ⟨by have := HK1.out; first | omega | exact Nat.le_refl _⟩, by repeat (first | exact Drawn0.refl _ | apply Drawn0.step)⟩
      case rest =>
        clear HC3
        try clear c1
        try clear p2
        try clear c4
        try clear c4b0
        try clear p2
        obtain ⟨kq, x15_2, rfl, HA, HJ2, ⟨mc2, rfl⟩⟩ := hcut
        cases kq with
        | zero => exact absurd HA.out (by simp [triremeref05_Less.j1])
        | succ kj2 =>
          have H := HA.out
          clear HA
          simp only [triremeref05_Less.j1] at H
          by_cases c5 : x15_2 = true
          · subst c5
            have H1 : (if 0 ≤ x5_1 then (if x5_1 < (a0.size : Int) then (if x5_1 < (a1.size : Int) then (if (bt a0 x5_1) = (bt a1 x5_1) then (triremeref05_Less.l0 kj2 a0 a1 (wrap64 (x5_1 + 1))) else (some (decide ((bt a0 x5_1) < (bt a1 x5_1))))) else (none)) else (none)) else (none)) = some r := by rw [if_pos rfl] at H; exact H
            clear H
            have H := H1
            clear H1
            by_cases c6 : 0 ≤ x5_1
            · rw [if_pos c6] at H
              have c6b0 : decide (0 ≤ x5_1) = true := decide_eq_true c6
              clear c6
              by_cases c7 : x5_1 < (a0.size : Int)
              · rw [if_pos c7] at H
                have c7b0 : decide (x5_1 < (a0.size : Int)) = true := decide_eq_true c7
                clear c7
                by_cases c9 : x5_1 < (a1.size : Int)
                · rw [if_pos c9] at H
                  have c9b0 : decide (x5_1 < (a1.size : Int)) = true := decide_eq_true c9
                  clear c9
                  by_cases c11 : (bt a0 x5_1) = (bt a1 x5_1)
                  · rw [if_pos c11] at H
                    have c11b0 : ((bt a0 x5_1) == (bt a1 x5_1)) = true := beq_iff_eq.mpr c11
                    have c11b1 : ((bt a0 x5_1) != (bt a1 x5_1)) = false := bne_eq_false_iff_eq.mpr c11
                    clear c11
                    have H' := Aside0.mk H
                    clear H
                    have p8 : 0 ≤ (x5_1 : Int) := of_decide_eq_true (by first | (with_reducible assumption) | assumption)
                    have q8 : x5_1 < (a0.size : Int) := of_decide_eq_true (by first | (with_reducible assumption) | assumption)
                    have hx8 := bt_at a0 x5_1
                    replace p8 := eq_true p8
                    replace q8 := eq_true q8
                    have p10 : 0 ≤ (x5_1 : Int) := of_decide_eq_true (by first | (with_reducible assumption) | assumption)
                    have q10 : x5_1 < (a1.size : Int) := of_decide_eq_true (by first | (with_reducible assumption) | assumption)
                    have hx10 := bt_at a1 x5_1
                    replace p10 := eq_true p10
                    replace q10 := eq_true q10
                    go_wp2
                    repeat (go_quiet (fail); try go_wp2)
                    go_roundg kj2
                    case measure => have := HK1.out; have := HJ2.out; omega
                    case rel => exact ⟨(wrap64 (x5_1 + 1)), (by first | rfl | (simp; done) | (simp [*]; done)), H', ⟨by have := HK1.out; have := HJ2.out; omega⟩, by repeat (first | exact Drawn0.refl _ | apply Drawn0.step)⟩
                  · rw [if_neg c11] at H
                    have c11b0 : ((bt a0 x5_1) == (bt a1 x5_1)) = false := beq_eq_false_iff_ne.mpr c11
                    have c11b1 : ((bt a0 x5_1) != (bt a1 x5_1)) = true := bne_iff_ne.mpr c11
                    obtain rfl := Option.some.inj H
                    have p8 : 0 ≤ (x5_1 : Int) := of_decide_eq_true (by first | (with_reducible assumption) | assumption)
                    have q8 : x5_1 < (a0.size : Int) := of_decide_eq_true (by first | (with_reducible assumption) | assumption)
                    have hx8 := bt_at a0 x5_1
                    replace p8 := eq_true p8
                    replace q8 := eq_true q8
                    have p10 : 0 ≤ (x5_1 : Int) := of_decide_eq_true (by first | (with_reducible assumption) | assumption)
                    have q10 : x5_1 < (a1.size : Int) := of_decide_eq_true (by first | (with_reducible assumption) | assumption)
                    have hx10 := bt_at a1 x5_1
                    replace p10 := eq_true p10
                    replace q10 := eq_true q10
                    have p12 : 0 ≤ (x5_1 : Int) := of_decide_eq_true (by first | (with_reducible assumption) | assumption)
                    have q12 : x5_1 < (a0.size : Int) := of_decide_eq_true (by first | (with_reducible assumption) | assumption)
                    have hx12 := bt_at a0 x5_1
                    replace p12 := eq_true p12
                    replace q12 := eq_true q12
                    have p13 : 0 ≤ (x5_1 : Int) := of_decide_eq_true (by first | (with_reducible assumption) | assumption)
                    have q13 : x5_1 < (a1.size : Int) := of_decide_eq_true (by first | (with_reducible assumption) | assumption)
                    have hx13 := bt_at a1 x5_1
                    replace p13 := eq_true p13
                    replace q13 := eq_true q13
                    go_wp2
                    repeat (go_quiet (fail); try go_wp2)
                    go_ret
                    exact ⟨by first | rfl | (simp; done) | (simp [*]; done), by repeat (first | exact Drawn0.refl _ | apply Drawn0.step)⟩
                · rw [if_neg c9] at H
                  exact absurd H (by simp)
              · rw [if_neg c7] at H
                exact absurd H (by simp)
            · rw [if_neg c6] at H
              exact absurd H (by simp)
          · replace c5 := Bool.eq_false_iff.mpr c5
            subst c5
            have H1 : (some (decide ((a0.size : Int) < (a1.size : Int)))) = some r := by rw [if_neg (show ¬ (false = true) by decide)] at H; exact H
            clear H
            have H := H1
            clear H1
            obtain rfl := Option.some.inj H
            go_wp2
            repeat (go_quiet (fail); try go_wp2)
            go_ret
            exact ⟨by first | rfl | (simp; done) | (simp [*]; done), by repeat (first | exact Drawn0.refl _ | apply Drawn0.step)⟩

end Go.Proofs.Ytdpchfifaidamaa.PLedgerTells
