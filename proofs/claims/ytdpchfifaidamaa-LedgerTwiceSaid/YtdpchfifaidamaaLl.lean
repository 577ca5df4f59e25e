/- The ledger's plain laws: the same tick again and again. No condition. -/
import Derived.Test.YtdpchfifaidamaaLf
namespace Go.Proofs.Ytdpchfifaidamaa.L
open Go.RowKit Go.Maps Go.Proofs.YtdpchfifaidamaaW.PrintWords Go.Proofs.Ytdpchfifaidamaa.B Go.Proofs.Ytdpchfifaidamaa.U Go.Proofs.Ytdpchfifaidamaa.PLedgerTells
set_option linter.unusedVariables false
set_option linter.unusedSimpArgs false

theorem sumN_add (p s : Int) (b : Nat) : ∀ a, sumN p a (sumN p b s) = sumN p (a + b) s
  | 0 => by rw [Nat.zero_add]; rfl
  | a + 1 => by
    rw [show a + 1 + b = (a + b) + 1 from by omega]
    show min (sumN p a (sumN p b s) + p) 1125899906842624 = min (sumN p (a + b) s + p) 1125899906842624
    rw [sumN_add p s b a]
theorem sumN_min {p : Int} (hp : 0 ≤ p) : ∀ n : Nat, sumN p n 0 = min ((n : Int) * p) 1125899906842624
  | 0 => by simp [sumN]; omega
  | n + 1 => by
    show min (sumN p n 0 + p) 1125899906842624 = _
    rw [sumN_min hp n]
    have : ((n + 1 : Nat) : Int) * p = (n : Int) * p + p := by rw [Int.natCast_add, Int.add_mul]; simp
    rw [this]
    have h0 : 0 ≤ (n : Int) * p := Int.mul_nonneg (by omega) hp
    omega
/-- a row after n ticks that each count c machines more. -/
def rowN (g : S76) (c n : Nat) : RV := ⟨g.f0, g.f4, ((n * c : Nat) : Int), if n = 0 then 0 else (c : Int), sumN g.f4 (n * c) 0⟩
theorem rowN_zero (g : S76) (c : Nat) : rowN g c 0 = newRow g := by simp [rowN, newRow, sumN]
theorem rowN_more (g : S76) (c n : Nat) : moreR (rowN g c n) c = rowN g c (n + 1) := by
  have h1 : ((n * c : Nat) : Int) + (c : Int) = (((n + 1) * c : Nat) : Int) := by rw [Nat.add_mul, Nat.one_mul]; omega
  have h2 : c + n * c = (n + 1) * c := by rw [Nat.add_mul, Nat.one_mul]; omega
  have h3 : max (if n = 0 then (0 : Int) else (c : Int)) (c : Int) = (c : Int) := by split <;> omega
  show (⟨g.f0, g.f4, ((n * c : Nat) : Int) + c, max (if n = 0 then 0 else (c : Int)) c, sumN g.f4 c (sumN g.f4 (n * c) 0)⟩ : RV) = _
  rw [h1, sumN_add, h2, h3]
  simp [rowN]
def rows (l : List S76) (I : List S135) (n : Nat) : List RV := l.map (fun g => rowN g (cN I g.f0 I.length) n)
theorem rows_zero (l : List S76) (I : List S135) : rows l I 0 = l.map newRow := by unfold rows; congr 1; funext g; exact rowN_zero _ _
theorem rows_more (l : List S76) (I : List S135) (n : Nat) : addR I (rows l I n) = rows l I (n + 1) := by
  unfold addR rows
  rw [List.map_map]
  congr 1
  funext g
  exact rowN_more _ _ _
theorem rows_len (l : List S76) (I : List S135) (n : Nat) : (rows l I n).length = l.length := by unfold rows; rw [List.length_map]
/-- the row of a name that is there: one group's. -/
theorem ofF_rows (l : List S76) (I : List S135) (n : Nat) (s : ByteArray) : ∀ (d i : Nat), i + d = l.length → (∃ j, i ≤ j ∧ j < l.length ∧ (l.getD j z76).f0 = s) →
    ∃ j, j < l.length ∧ (l.getD j z76).f0 = s ∧ ∀ n, ofF (rows l I n) s d i = rowN (l.getD j z76) (cN I s I.length) n := by
  intro d
  induction d with
  | zero => intro i hd ⟨j, h1, h2, _⟩; omega
  | succ d ih =>
    intro i hd ⟨j, h1, h2, h3⟩
    have hg : ∀ n, (rows l I n).getD i zR = rowN (l.getD i z76) (cN I (l.getD i z76).f0 I.length) n := fun n => by
      unfold rows
      rw [List.getD_eq_getElem?_getD, List.getElem?_map, List.getD_eq_getElem?_getD, List.getElem?_eq_getElem (show i < l.length by omega)]
      rfl
    by_cases e : (l.getD i z76).f0 = s
    · refine ⟨i, by omega, e, fun n => ?_⟩
      unfold ofF
      rw [hg, if_pos (show (rowN (l.getD i z76) (cN I (l.getD i z76).f0 I.length) n).name = s from e), e]
    · have hne : i ≠ j := fun h => e (h ▸ h3)
      obtain ⟨j', k1, k2, k3⟩ := ih (i + 1) (by omega) ⟨j, by omega, h2, h3⟩
      refine ⟨j', k1, k2, fun n => ?_⟩
      unfold ofF
      rw [hg, if_neg (show ¬ (rowN (l.getD i z76) (cN I (l.getD i z76).f0 I.length) n).name = s from e)]
      exact k3 n
theorem ofR_rows (l : List S76) (I : List S135) (i : Nat) (hi : i < l.length) : ∃ j, j < l.length ∧ ∀ n, ofR (rows l I n) (l.getD i z76).f0 = rowN (l.getD j z76) (cN I (l.getD i z76).f0 I.length) n := by
  obtain ⟨j, h1, _, h3⟩ := ofF_rows l I 0 (l.getD i z76).f0 l.length 0 (by omega) ⟨i, by omega, hi, rfl⟩
  exact ⟨j, h1, fun n => by unfold ofR; rw [rows_len]; exact h3 n⟩
/-- the mean of n like ticks is that of one. -/
def mdSame (k : Nat) : Bool := (List.range 61).all (fun c => md ((k + 1) * c) (k + 1) == md c 1)
theorem md_all : (List.range 20).all mdSame = true := by decide +kernel
theorem md_same {n c : Nat} (h1 : 1 ≤ n) (h2 : n ≤ 20) (hc : c ≤ 60) : md (n * c) n = md c 1 := by
  have h := (List.all_eq_true.1 md_all) (n - 1) (List.mem_range.2 (by omega))
  unfold mdSame at h
  have h' := (List.all_eq_true.1 h) c (List.mem_range.2 (by omega))
  rw [show n - 1 + 1 = n by omega] at h'
  exact eq_of_beq h'
/-- the sum of n like ticks. -/
theorem sum_same {p : Int} (hp : 0 ≤ p) {n c : Nat} (h1 : 1 ≤ n) : min ((n : Int) * sumN p (1 * c) 0) 1125899906842624 = sumN p (n * c) 0 := by
  rw [sumN_min hp, sumN_min hp, Nat.one_mul, Int.natCast_mul, Int.mul_assoc]
  have hq : 0 ≤ (c : Int) * p := Int.mul_nonneg (by omega) hp
  obtain ⟨q, hqe⟩ : ∃ q, q = (c : Int) * p := ⟨_, rfl⟩
  rw [← hqe] at hq ⊢
  by_cases h : q ≤ 1125899906842624
  · rw [Int.min_eq_left h]
  · rw [Int.min_eq_right (by omega : (1125899906842624 : Int) ≤ q)]
    have h2 : 1 * (1125899906842624 : Int) ≤ n * 1125899906842624 := Int.mul_le_mul_of_nonneg_right (by omega) (by omega)
    have h3 : 1 * q ≤ n * q := Int.mul_le_mul_of_nonneg_right (by omega) hq
    rw [Int.min_eq_right (by omega), Int.min_eq_right (by omega)]
/-- every right group's price. -/
theorem price_of {l : List S76} (h : groupsB l = true) (i : Nat) (hi : i < l.length) : 0 ≤ (l.getD i z76).f4 ∧ (l.getD i z76).f4 ≤ 1125899906842624 ∧ (l.getD i z76).f0.size ≤ 48 := by
  unfold groupsB at h
  rw [Bool.and_eq_true, allF_iff] at h
  have h2 := h.2 i (by omega) (by omega)
  unfold grp1 groupB betB at h2
  simp only [Bool.and_eq_true, decide_eq_true_eq] at h2
  obtain ⟨⟨_, _, _, hp, _⟩, hs, _⟩ := h2
  exact ⟨hp.1, hp.2, hs⟩
theorem okR_rowN {g : S76} {c n : Nat} (h0 : 0 ≤ g.f4) (h1 : g.f4 ≤ 1125899906842624) (hc : c ≤ 1000) (hn : n ≤ 1000) : OkR (rowN g c n) := by
  have hs := sumN_bd h0 (s := 0) (by omega) (n * c)
  have hm : n * c ≤ 1000 * 1000 := Nat.mul_le_mul hn hc
  refine ⟨h0, h1, ?_, ?_, ?_, ?_, hs.1, hs.2⟩
  · show (0 : Int) ≤ ((n * c : Nat) : Int); omega
  · show ((n * c : Nat) : Int) ≤ _; omega
  · show (0 : Int) ≤ (if n = 0 then 0 else (c : Int)); split <;> omega
  · show (if n = 0 then 0 else (c : Int)) ≤ _; split <;> omega
theorem rows_getD (l : List S76) (I : List S135) (n i : Nat) (hi : i < l.length) : (rows l I n).getD i zR = rowN (l.getD i z76) (cN I (l.getD i z76).f0 I.length) n := by
  unfold rows
  rw [List.getD_eq_getElem?_getD, List.getElem?_map, List.getD_eq_getElem?_getD, List.getElem?_eq_getElem hi]
  rfl
theorem rows_none (l : List S76) (I : List S135) (n i : Nat) (hi : ¬ i < l.length) : (rows l I n).getD i zR = zR := by
  rw [List.getD_eq_getElem?_getD, List.getElem?_eq_none (by rw [rows_len]; omega)]
  rfl
theorem okR_zero : OkR zR := ⟨by decide, by decide, by decide, by decide, by decide, by decide, by decide, by decide⟩
theorem okR_rows {l : List S76} (h : groupsB l = true) {I : List S135} (hI : I.length ≤ 1000) {n : Nat} (hn : n ≤ 1000) (i : Nat) : OkR ((rows l I n).getD i zR) ∧ ((rows l I n).getD i zR).name.size ≤ maxLen := by
  by_cases hi : i < l.length
  · rw [rows_getD l I n i hi]
    obtain ⟨h0, h1, h2⟩ := price_of h i hi
    have hcn := cN_le I (l.getD i z76).f0 I.length
    refine ⟨okR_rowN h0 h1 (by omega) hn, ?_⟩
    show (l.getD i z76).f0.size ≤ maxLen
    simp only [maxLen]; omega
  · rw [rows_none l I n i hi]
    exact ⟨okR_zero, by decide⟩
end Go.Proofs.Ytdpchfifaidamaa.L
