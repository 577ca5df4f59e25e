/- What a right rune is, and what a word is: on both sides alike. No condition. -/
import Derived.Test.YtdpchfifaidamaaB0
import Derived.Test.YtdpchfifaidamaaV5
import Derived.Lib.DecodeN
namespace Go.Proofs.Ytdpchfifaidamaa.U
open Go.RowKit Go.Maps Go.Proofs.YtdpchfifaidamaaW.PrintWords Go.Proofs.Ytdpchfifaidamaa.B Go.Proofs.Ytdpchfifaidamaa.PLedgerTells
set_option linter.unusedVariables false
set_option linter.unusedSimpArgs false

/-- the byte at a place; behind the end: 0. -/
def by' (s : ByteArray) (i : Nat) : Nat := (s.get! i).toNat
theorem by_lt (s : ByteArray) (i : Nat) : by' s i < 256 := (s.get! i).toNat_lt
theorem bt_by (s : ByteArray) (i : Nat) (h : i < s.size) : bt s (i : Int) = (by' s i : Nat) := by
  unfold bt by'
  rw [dif_pos (by simpa using h)]
  have : s.get! i = s[i]'h := by
    simp [ByteArray.get!, getElem!_pos, h]
    rfl
  rw [this]
  rfl
abbrev dec (s : ByteArray) (i : Nat) : Nat × Nat := Utf8.decode s i
def rightB (s : ByteArray) (i : Nat) : Bool := decide ((dec s i).1 ≠ 65533) || (decide (i + 2 < s.size) && decide (by' s i = 239) && decide (by' s (i + 1) = 191) && decide (by' s (i + 2) = 189))
def plainB (c : Nat) : Bool := decide (32 < c ∧ c ≠ 127 ∧ c ≠ 40 ∧ c ≠ 41 ∧ c ≠ 34 ∧ c ≠ 59)

theorem w64 {n : Int} (h0 : -9223372036854775808 ≤ n) (h1 : n ≤ 9223372036854775807) : wrap64 n = n := by unfold wrap64; omega
theorem dec_ge (s : ByteArray) (i : Nat) : dec s i = Go.Lib.decodeN (s.size - i) (by' s i) (by' s (i + 1)) (by' s (i + 2)) (by' s (i + 3)) := Go.Lib.decode_at s i
theorem right_f (s : ByteArray) (i : Nat) (hi : i < s.size) (hs : s.size ≤ 4611686018427387904) : lex_right.f s i ((dec s i).1 : Nat) = some (rightB s i) := by
  unfold lex_right.f rightB
  rw [w64 (n := (i : Int) + 2) (by omega) (by omega), w64 (n := (i : Int) + 1) (by omega) (by omega)]
  by_cases h : (dec s i).1 = 65533
  · rw [if_pos (by rw [h]; rfl)]
    simp only [h, ne_eq, not_true_eq_false, decide_false, Bool.false_or]
    by_cases h2 : i + 2 < s.size
    · rw [if_pos (by omega), if_pos (by omega), if_pos (by omega)]
      have e0 := bt_by s i (by omega)
      have e1 := bt_by s (i + 1) (by omega)
      have e2 := bt_by s (i + 2) (by omega)
      rw [show ((i : Int) + 1) = ((i + 1 : Nat) : Int) from by omega, show ((i : Int) + 2) = ((i + 2 : Nat) : Int) from by omega, e0, e1, e2]
      by_cases h3 : by' s i = 239
      · rw [if_pos (by omega), if_pos (by omega), if_pos (by omega)]
        by_cases h4 : by' s (i + 1) = 191
        · rw [if_pos (by omega), if_pos (by omega)]
          simp [h2, h3, h4]
          rw [Bool.eq_iff_iff]
          simp
          omega
        · rw [if_neg (by omega)]
          simp [h4]
      · rw [if_neg (by omega)]
        simp [h3]
    · rw [if_neg (by omega)]
      simp [h2]
  · rw [if_neg (by omega)]
    simp [h]
theorem lplain_f (c : Nat) : lex_plain.f c = some (plainB c) := by
  unfold lex_plain.f plainB
  repeat' split
  all_goals simp only [Option.some.injEq]
  all_goals first
    | (symm; rw [decide_eq_false_iff_not]; omega)
    | (rw [decide_eq_decide]; omega)
theorem rplain_f (c : Nat) : triremeref01_plain.f c = some (plainB c) := by
  unfold triremeref01_plain.f plainB
  repeat' split
  all_goals first
    | (simp only [Option.some.injEq]; symm; rw [decide_eq_false_iff_not]; omega)
    | (simp only [Option.some.injEq]; rw [Bool.eq_iff_iff]; simp; omega)
theorem more_f (s : ByteArray) (i : Nat) : triremeref01_more.f s (i : Int) = some (decide (i < s.size ∧ by' s i / 64 = 2)) := by
  unfold triremeref01_more.f
  by_cases h : i < s.size
  · rw [if_pos (by omega), if_pos (by omega), bt_by s i h]
    have := by_lt s i
    by_cases h2 : 128 ≤ by' s i
    · rw [if_pos (by omega)]
      simp only [Option.some.injEq]
      rw [decide_eq_decide]
      omega
    · rw [if_neg (by omega)]
      simp only [Option.some.injEq]
      symm
      rw [decide_eq_false_iff_not]
      omega
  · rw [if_neg (by omega)]
    simp [h]
theorem by_out (s : ByteArray) (i : Nat) (h : s.size ≤ i) : by' s i = 0 := by
  unfold by'
  have : s.get! i = (default : UInt8) := by
    simp only [ByteArray.get!]
    rw [getElem!_neg]
    simpa using h
  rw [this]
  rfl
theorem bt_any (s : ByteArray) (i : Nat) : bt s (i : Int) = (by' s i : Nat) := by
  rcases Nat.lt_or_ge i s.size with h | h
  · exact bt_by s i h
  · rw [by_out s i h]
    unfold bt
    rw [dif_neg (by simpa using h)]
    rfl
theorem ite_eq' {α : Type} {c : Prop} [Decidable c] {a b r : α} (h1 : c → a = r) (h2 : ¬ c → b = r) : (if c then a else b) = r := by
  by_cases h : c
  · rw [if_pos h]; exact h1 h
  · rw [if_neg h]; exact h2 h
def runeP (s : ByteArray) (i : Nat) : Int × Int := if rightB s i then (((dec s i).1 : Nat), ((dec s i).2 : Nat)) else (0, 0)
theorem dec_pos (s : ByteArray) (i : Nat) : 1 ≤ (dec s i).2 := by
  rw [dec_ge]
  unfold Go.Lib.decodeN
  repeat' split
  all_goals simp
set_option maxHeartbeats 4000000 in
theorem rune_f (s : ByteArray) (i k : Nat) (hi : i < s.size) (hs : s.size ≤ 4611686018427387904) : triremeref01_Rune.f (k + 3) s i = some (runeP s i) := by
  unfold runeP rightB
  rw [dec_ge]
  unfold triremeref01_Rune.f
  simp only [triremeref01_Rune.j0, triremeref01_Rune.j1, triremeref01_Rune.j2]
  rw [if_pos (by omega), if_pos (by omega)]
  rw [w64 (n := (i : Int) + 1) (by omega) (by omega), w64 (n := (i : Int) + 2) (by omega) (by omega), w64 (n := (i : Int) + 3) (by omega) (by omega)]
  rw [show ((i : Int) + 1) = ((i + 1 : Nat) : Int) from by omega, show ((i : Int) + 2) = ((i + 2 : Nat) : Int) from by omega, show ((i : Int) + 3) = ((i + 3 : Nat) : Int) from by omega]
  simp only [more_f, Option.bind_some, bt_any, decide_eq_true_eq, Bool.false_eq_true, if_false]
  have h0 := by_lt s i; have h1 := by_lt s (i + 1); have h2 := by_lt s (i + 2); have h3 := by_lt s (i + 3)
  generalize by' s i = b0 at *
  generalize by' s (i + 1) = b1 at *
  generalize by' s (i + 2) = b2 at *
  generalize by' s (i + 3) = b3 at *
  have e0 : wrap64 (b0 : Int) = b0 := w64 (by omega) (by omega)
  have e1 : wrap64 (b1 : Int) = b1 := w64 (by omega) (by omega)
  have e2 : wrap64 (b2 : Int) = b2 := w64 (by omega) (by omega)
  have e3 : wrap64 (b3 : Int) = b3 := w64 (by omega) (by omega)
  simp only [e0, e1, e2, e3]
  have x2 : wrap64 (wrap64 (wrap64 (wrap64 ((b0 : Int) - 192) * 64) + b1) - 128) = (b0 - 192) * 64 + b1 - 128 := by
    rw [w64 (n := (b0 : Int) - 192) (by omega) (by omega), w64 (n := ((b0 : Int) - 192) * 64) (by omega) (by omega), w64 (n := ((b0 : Int) - 192) * 64 + b1) (by omega) (by omega), w64 (by omega) (by omega)]
  have x3 : wrap64 (wrap64 (wrap64 (wrap64 (wrap64 ((b0 : Int) - 224) * 4096) + wrap64 (wrap64 ((b1 : Int) - 128) * 64)) + b2) - 128) = (b0 - 224) * 4096 + (b1 - 128) * 64 + b2 - 128 := by
    rw [w64 (n := (b0 : Int) - 224) (by omega) (by omega), w64 (n := ((b0 : Int) - 224) * 4096) (by omega) (by omega), w64 (n := (b1 : Int) - 128) (by omega) (by omega), w64 (n := ((b1 : Int) - 128) * 64) (by omega) (by omega), w64 (n := ((b0 : Int) - 224) * 4096 + (b1 - 128) * 64) (by omega) (by omega), w64 (n := ((b0 : Int) - 224) * 4096 + (b1 - 128) * 64 + b2) (by omega) (by omega), w64 (by omega) (by omega)]
  have x4 : wrap64 (wrap64 (wrap64 (wrap64 (wrap64 (wrap64 ((b0 : Int) - 240) * 262144) + wrap64 (wrap64 ((b1 : Int) - 128) * 4096)) + wrap64 (wrap64 ((b2 : Int) - 128) * 64)) + b3) - 128) = (b0 - 240) * 262144 + (b1 - 128) * 4096 + (b2 - 128) * 64 + b3 - 128 := by
    rw [w64 (n := (b0 : Int) - 240) (by omega) (by omega), w64 (n := ((b0 : Int) - 240) * 262144) (by omega) (by omega), w64 (n := (b1 : Int) - 128) (by omega) (by omega), w64 (n := ((b1 : Int) - 128) * 4096) (by omega) (by omega), w64 (n := ((b0 : Int) - 240) * 262144 + (b1 - 128) * 4096) (by omega) (by omega),
      w64 (n := (b2 : Int) - 128) (by omega) (by omega), w64 (n := ((b2 : Int) - 128) * 64) (by omega) (by omega), w64 (n := ((b0 : Int) - 240) * 262144 + (b1 - 128) * 4096 + (b2 - 128) * 64) (by omega) (by omega), w64 (n := ((b0 : Int) - 240) * 262144 + (b1 - 128) * 4096 + (b2 - 128) * 64 + b3) (by omega) (by omega), w64 (by omega) (by omega)]
  simp only [x2, x3, x4]
  clear x2 x3 x4 e0 e1 e2 e3
  unfold Go.Lib.decodeN
  by_cases hA : b0 < 128
  · rw [if_pos hA, if_pos (by omega)]
    have : b0 ≠ 65533 := by omega
    simp [this]
  rw [if_neg hA, if_neg (by omega)]
  by_cases hB : b0 / 32 = 6 ∧ (1 < s.size - i ∧ b1 / 64 = 2)
  · rw [if_pos hB]
    by_cases hv : b0 % 32 * 64 + b1 % 64 ≥ 128
    · rw [if_pos hv]
      have : b0 % 32 * 64 + b1 % 64 ≠ 65533 := by omega
      simp only [this, ne_eq, not_false_eq_true, decide_true, Bool.true_or, if_true]
      repeat' (refine ite_eq' (fun _ => ?_) (fun _ => ?_))
      all_goals first | (exfalso; omega) | (simp only [Option.some.injEq, Prod.mk.injEq]; omega)
    · rw [if_neg hv]
      have : b0 ≠ 239 := by omega
      simp only [this, ne_eq, not_true_eq_false, decide_false, Bool.false_or, Bool.and_false, Bool.false_and, if_false, Bool.false_eq_true]
      repeat' (refine ite_eq' (fun _ => ?_) (fun _ => ?_))
      all_goals first | rfl | (exfalso; omega)
  rw [if_neg hB]
  by_cases hC : b0 / 16 = 14 ∧ (1 < s.size - i ∧ b1 / 64 = 2) ∧ (2 < s.size - i ∧ b2 / 64 = 2)
  · rw [if_pos hC]
    obtain ⟨v, hv⟩ : ∃ v, v = b0 % 16 * 4096 + b1 % 64 * 64 + b2 % 64 := ⟨_, rfl⟩
    rw [← hv]
    by_cases hok : v ≥ 2048 ∧ (v < 55296 ∨ (57344 ≤ v ∧ v ≤ 1114111))
    · rw [if_pos hok]
      have hr : (decide (v ≠ 65533) || (decide (i + 2 < s.size) && decide (b0 = 239) && decide (b1 = 191) && decide (b2 = 189))) = true := by
        by_cases hx : v = 65533
        · have h1 : b0 = 239 := by omega
          have h2 : b1 = 191 := by omega
          have h3 : b2 = 189 := by omega
          have h4 : i + 2 < s.size := by omega
          simp [h1, h2, h3, h4]
        · simp [hx]
      simp only
      rw [hr, if_pos rfl]
      repeat' (refine ite_eq' (fun _ => ?_) (fun _ => ?_))
      all_goals first | (exfalso; omega) | (simp only [Option.some.injEq, Prod.mk.injEq]; omega)
    · rw [if_neg hok]
      have hr : (decide ((65533 : Nat) ≠ 65533) || (decide (i + 2 < s.size) && decide (b0 = 239) && decide (b1 = 191) && decide (b2 = 189))) = false := by
        have : ¬ (b0 = 239 ∧ b1 = 191 ∧ b2 = 189) := by omega
        simp
        intro _ h1 h2 h3
        exact this ⟨h1, h2, h3⟩
      simp only
      rw [hr]
      simp only [Bool.false_eq_true, if_false]
      repeat' (refine ite_eq' (fun _ => ?_) (fun _ => ?_))
      all_goals first | rfl | (exfalso; omega)
  rw [if_neg hC]
  have hr : (decide ((65533 : Nat) ≠ 65533) || (decide (i + 2 < s.size) && decide (b0 = 239) && decide (b1 = 191) && decide (b2 = 189))) = false := by
    have : ¬ (i + 2 < s.size ∧ b0 = 239 ∧ b1 = 191 ∧ b2 = 189) := by omega
    simp
    intro h0 h1 h2 h3
    exact this ⟨h0, h1, h2, h3⟩
  have hn : b0 ≠ 239 ∨ True := .inr trivial
  by_cases hD : b0 / 8 = 30 ∧ (1 < s.size - i ∧ b1 / 64 = 2) ∧ (2 < s.size - i ∧ b2 / 64 = 2) ∧ (3 < s.size - i ∧ b3 / 64 = 2)
  · rw [if_pos hD]
    obtain ⟨v, hv⟩ : ∃ v, v = b0 % 8 * 262144 + b1 % 64 * 4096 + b2 % 64 * 64 + b3 % 64 := ⟨_, rfl⟩
    rw [← hv]
    by_cases hok : v ≥ 65536 ∧ (v < 55296 ∨ (57344 ≤ v ∧ v ≤ 1114111))
    · rw [if_pos hok]
      have : v ≠ 65533 := by omega
      simp only [this, ne_eq, not_false_eq_true, decide_true, Bool.true_or, if_true]
      repeat' (refine ite_eq' (fun _ => ?_) (fun _ => ?_))
      all_goals first | (exfalso; omega) | (simp only [Option.some.injEq, Prod.mk.injEq]; omega)
    · rw [if_neg hok]
      simp only
      rw [hr]
      simp only [Bool.false_eq_true, if_false]
      repeat' (refine ite_eq' (fun _ => ?_) (fun _ => ?_))
      all_goals first | rfl | (exfalso; omega)
  · rw [if_neg hD]
    simp only
    rw [hr]
    simp only [Bool.false_eq_true, if_false]
    repeat' (refine ite_eq' (fun _ => ?_) (fun _ => ?_))
    all_goals first | rfl | (exfalso; omega)
end Go.Proofs.Ytdpchfifaidamaa.U
