/- The ledger's Mean: what floats it gives; a table that is not there. No condition. -/
import Derived.Test.YtdpchfifaidamaaLe
import Derived.Laws.FloatArith
namespace Go.Proofs.Ytdpchfifaidamaa.L
open Go.RowKit Go.Maps Go.Proofs.YtdpchfifaidamaaW.PrintWords Go.Proofs.Ytdpchfifaidamaa.B Go.Proofs.Ytdpchfifaidamaa.U Go.Proofs.Ytdpchfifaidamaa.PLedgerTells
set_option linter.unusedVariables false
set_option linter.unusedSimpArgs false

/-- a number over another one, as floats. -/
def md (a n : Nat) : Option Nat := floatBits .quo .f64 (floatOfInt .f64 (a : Int)) (floatOfInt .f64 (n : Int))
def isNum (d : Ieee.Datum) : Bool := match d with | .number _ _ _ => true | _ => false
def isPos (d : Ieee.Datum) : Bool := match d with | .number _ m _ => m != 0 | _ => false
theorem num_all : (List.range 2000).all (fun a => isNum (FloatKind.f64.format.read (floatOfInt .f64 ((a : Nat) : Int)))) = true := by decide +kernel
theorem pos_all : (List.range 64).all (fun n => isPos (FloatKind.f64.format.read (floatOfInt .f64 ((n + 1 : Nat) : Int)))) = true := by decide +kernel
def notNaN (d : Ieee.Datum) : Bool := match d with | .nan _ _ => false | _ => true
theorem read_word (f : Ieee.Format) (neg : Bool) (r : Nat) (hr : r ≤ f.infRung) (hs : f.infRung < f.signWeight) : notNaN (f.read (f.word neg r)) = true := by
  have hm : (f.word neg r) % f.signWeight = r := by
    unfold Ieee.Format.word
    split
    · rw [Nat.add_mod_left, Nat.mod_eq_of_lt (by omega)]
    · rw [Nat.mod_eq_of_lt (by omega)]
  unfold Ieee.Format.read
  simp only [hm]
  split
  · rfl
  · split
    · rfl
    · split
      · rfl
      · omega
theorem dbl : Ieee.double.infRung < Ieee.double.signWeight := by decide +kernel
theorem near_num (neg : Bool) (m : Nat) (p : Int) : notNaN (FloatKind.f64.format.read (FloatKind.f64.format.write (.number neg m p))) = true := by
  show notNaN (Ieee.double.read (Ieee.double.nearest neg m p)) = true
  unfold Ieee.Format.nearest
  split
  · exact read_word _ _ _ (Nat.zero_le _) dbl
  · exact read_word _ _ _ (Nat.min_le_right _ _) dbl
theorem order_self {x : Nat} (h : notNaN (FloatKind.f64.format.read x) = true) : FloatKind.f64.format.order x x = some .eq := by
  unfold Ieee.Format.order
  cases hd : FloatKind.f64.format.read x with
  | nan s t => rw [hd] at h; cases h
  | infinity s => simp [Ieee.Datum.order]
  | number s m p => simp [Ieee.Datum.order]
theorem md_some {a n : Nat} (ha : a < 2000) (hn : 1 ≤ n) (hn2 : n ≤ 64) : ∃ r, md a n = some r ∧ FloatKind.f64.format.order r r = some .eq := by
  have h1 := (List.all_eq_true.1 num_all) a (List.mem_range.2 ha)
  have h2 := (List.all_eq_true.1 pos_all) (n - 1) (List.mem_range.2 (by omega))
  rw [show n - 1 + 1 = n by omega] at h2
  unfold md floatBits Ieee.Format.div
  cases hx : FloatKind.f64.format.read (floatOfInt .f64 (a : Int)) with
  | infinity s => simp only [hx] at h1; cases h1
  | nan s t => simp only [hx] at h1; cases h1
  | number s m i =>
    cases hy : FloatKind.f64.format.read (floatOfInt .f64 (n : Int)) with
    | infinity s => simp only [hy] at h2; cases h2
    | nan s t => simp only [hy] at h2; cases h2
    | number t k j =>
      simp only [hy, isPos] at h2
      have hk : k ≠ 0 := by simpa using h2
      simp only [Ieee.Datum.quotient, if_neg hk, Option.map_some]
      exact ⟨_, rfl, order_self (near_num _ _ _)⟩
set_option maxRecDepth 100000 in
theorem mean_calls (w : World) (g : Nat) (v : Value) (base : Nat) (R : List RV) (n : Nat) (s : ByteArray) (h : LT w g v base R (n : Int)) (hl : R.length ≤ 1000000) (hn : 1 ≤ n) (a r : Nat) (ha : (ofR R s).all = (a : Int)) (hr : md a n = some r) :
    Calls Try.prog 64 #[.pointer (some ⟨g, 0, none⟩), .string s] w fun e w' => e = .returned (.float .f64 r) ∧ Fr no w w' := by
  have HH := Aside0.mk h
  have HL := Aside0.mk hl
  have hu137 := Try.underlying137
  have hu96 := Try.underlying96
  have hu3 := Try.underlying3
  have hne : ((n : Int) == 0) = false := by simp; omega
  have hfa1 := hfa
  have HA := Aside0.mk ha
  have hq := fun (w : World) => run_float_arith (P := Try.prog) w .quo 96 .f64 (floatOfInt .f64 (a : Int)) (floatOfInt .f64 (n : Int)) r hr
  have hfx : ∀ W : World, (Instr.field 137 (.agg #[.string (ofR R s).name, .int .i64 (ofR R s).price, .int .i64 (ofR R s).all, .int .i64 (ofR R s).peak, .int .i64 (ofR R s).sum]) 2).run Try.prog W = .ok (.int .i64 (a : Int)) W := fun W => by rw [hfa, ha]
  clear h hr ha hn hfa1
  go_enter Try.func64, Try.ntmps64
  go_wp2_with (first
    | (go_at_call 68; refine (ticks_calls _ g v base R (n : Int) HH.out).mono ?_; rintro e w' ⟨rfl, rfl⟩)
    | (go_at_call 100; refine (of_calls _ g v base R (n : Int) s HH.out HL.out).mono ?_; rintro e w' ⟨rfl, hf⟩; have HF := Aside0.mk hf; clear hf))
  go_ret
  exact ⟨rfl, HF.out⟩
end Go.Proofs.Ytdpchfifaidamaa.L
