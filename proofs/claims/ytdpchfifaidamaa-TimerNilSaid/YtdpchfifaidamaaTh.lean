/- The walk of TimerNil: a table that is not there notes nothing. No condition. -/
import Derived.Test.YtdpchfifaidamaaTg
namespace Go.Proofs.Ytdpchfifaidamaa.T
open Go.RowKit Go.Maps Go.Proofs.YtdpchfifaidamaaW.PrintWords Go.Proofs.Ytdpchfifaidamaa.B
set_option linter.unusedVariables false
set_option linter.unusedSimpArgs false

set_option maxRecDepth 100000 in
set_option maxHeartbeats 2000000 in
theorem nil_walk (w : World) (A : Option Addr) (n c : Nat) (now : Int) (hn : n ≤ 9223372036854775807) : Calls Try.prog 7 #[.slice A n c, .int .i64 now] w fun e w' => e = .returned (.bool true) ∧ Below w.heap.size w w' := by
  by_cases hb : 20 < n
  · have hd : decide (20 < n) = true := decide_eq_true hb
    go_enter Try.func7, Try.ntmps7
    go_wp2_with (go_at_call 14; refine (known_calls _).mono ?_; rintro e w' ⟨rfl, hw⟩; have HW := Aside0.mk hw; clear hw)
    go_ret
    exact ⟨rfl, HW.out⟩
  · have hd : decide (20 < n) = false := decide_eq_false hb
    have hcz : (w.alloc (.cells #[.map none] 67)).cell? ⟨w.heap.size, 0, none⟩ = some (.map none) := blk_cell (heap_alloc_new w _) 0
    go_enter Try.func7, Try.ntmps7
    go_wp2_with (first
      | (go_at_call 16; (first | ((with_reducible refine (note_nil _ _ _).mono ?_); rintro e w' ⟨rfl, rfl⟩) | ((with_reducible refine (note_zero _ _ _ _ hcz).mono ?_); rintro e w' ⟨rfl, rfl⟩)))
      | (go_at_call 40; (first | ((with_reducible refine (drop_nil _ _).mono ?_); rintro e w' ⟨rfl, rfl⟩) | ((with_reducible refine (drop_zero _ _ _ hcz).mono ?_); rintro e w' ⟨rfl, rfl⟩)))
      | (go_at_call 17; (first | ((with_reducible refine (since_nil _ _).mono ?_); rintro e w' ⟨rfl, rfl⟩) | ((with_reducible refine (since_zero _ _ _ hcz).mono ?_); rintro e w' ⟨rfl, rfl⟩)))
      | (go_at_call 18; (first | ((with_reducible refine (ripe_nil _ _ _).mono ?_); rintro e w' ⟨rfl, rfl⟩) | ((with_reducible refine (ripe_zero _ _ _ _ hcz).mono ?_); rintro e w' ⟨rfl, rfl⟩)))
      | (go_at_call 20; (first | ((with_reducible refine (names_nil _).mono ?_); rintro e w' ⟨rfl, rfl⟩) | ((with_reducible refine (names_zero _ _ hcz).mono ?_); rintro e w' ⟨rfl, rfl⟩)))
      | (go_at_call 42; (first | ((with_reducible refine (copy_nil _).mono ?_); rintro e w' ⟨rfl, rfl⟩) | ((with_reducible refine (copy_zero _ _ hcz).mono ?_); rintro e w' ⟨rfl, rfl⟩)))
      | (go_at_call 14; refine (known_calls _).mono ?_; rintro e w' ⟨rfl, hw⟩; have HW := Aside0.mk hw; clear hw))
    go_ret
    exact ⟨rfl, ((Fr.refl w no).alloc (.cells #[.map none] 67)).no_below.trans (HW.out.mono (by simp))⟩

end Go.Proofs.Ytdpchfifaidamaa.T
