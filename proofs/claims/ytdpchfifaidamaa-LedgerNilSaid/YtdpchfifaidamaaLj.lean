/- The walk of the law LedgerNil. No condition. -/
import Derived.Test.YtdpchfifaidamaaLi
namespace Go.Proofs.Ytdpchfifaidamaa.L
open Go.RowKit Go.Maps Go.Proofs.YtdpchfifaidamaaW.PrintWords Go.Proofs.Ytdpchfifaidamaa.B
set_option linter.unusedVariables false
set_option linter.unusedSimpArgs false

set_option maxRecDepth 100000 in
set_option maxHeartbeats 4000000 in
theorem nil_walk (w : World) (s : ByteArray) : Calls Try.prog 11 #[.string s] w fun e w' => e = .returned (.bool true) ∧ Below w.heap.size w w' := by
  have hu103 := Try.underlying103
  have hu96 := Try.underlying96
  have ho0 := ord_0
  go_enter Try.func11, Try.ntmps11
  by_cases hs : 300 < s.size
  · have h0d : decide ((300 : Int) < s.size) = true := decide_eq_true (by omega)
    have h0n : decide (300 < s.size) = true := decide_eq_true hs
    go_wp2_with (go_at_call 54; refine (known_walk _).mono ?_; rintro e w7 ⟨rfl, hf⟩; have HZ := Aside0.mk hf; clear hf)
    go_ret
    exact ⟨rfl, HZ.out.no_below⟩
  · have h0d : decide ((300 : Int) < s.size) = false := decide_eq_false (by omega)
    have h0n : decide (300 < s.size) = false := decide_eq_false hs
    have hba := heap_alloc_new w (.cells #[.slice none 0 0, .int .i64 0, .bool false] 103)
    go_upto_region 5 with fail
    obtain ⟨wa, hwa⟩ : ∃ wa, wa = w.alloc (.cells #[.slice none 0 0, .int .i64 0, .bool false] 103) := ⟨_, rfl⟩
    obtain ⟨b, hb⟩ : ∃ b, b = w.heap.size := ⟨_, rfl⟩
    rw [← hwa, ← hb] at hba
    rw [← hwa, ← hb]
    have HW := Aside0.mk (show Fr no w wa from hwa ▸ (Fr.refl w no).alloc _)
    have HG := Aside0.mk (show ∀ p, (p = none ∨ p = some ⟨b, 0, none⟩) → Gone wa p from fun p hp => by
      rcases hp with rfl | rfl
      · exact gone_nil _
      · exact gone_zero ((blk_cell hba 2).trans rfl))
    have HZ := Aside0.mk (Fr.refl wa no)
    clear hwa hb hba hs
    go_wp2_with (first
      | (go_at_call 57; refine (add_gone _ _ _ _ _ ((HG.out _ (by simp)).fr HZ.out)).mono ?_; rintro e w7 ⟨rfl, hf⟩; have HZ := Aside0.mk (HZ.out.then_ hf (fun _ h => .inl h)); clear hf)
      | (go_at_call 60; refine (sum_gone _ _ _ ((HG.out _ (by simp)).fr HZ.out)).mono ?_; rintro e w7 ⟨rfl, hf⟩; have HZ := Aside0.mk (HZ.out.then_ hf (fun _ h => .inl h)); clear hf)
      | (go_at_call 62; refine (peak_gone _ _ _ ((HG.out _ (by simp)).fr HZ.out)).mono ?_; rintro e w7 ⟨rfl, hf⟩; have HZ := Aside0.mk (HZ.out.then_ hf (fun _ h => .inl h)); clear hf)
      | (go_at_call 64; refine (mean_gone _ _ _ ((HG.out _ (by simp)).fr HZ.out)).mono ?_; rintro e w7 ⟨rfl, hf⟩; have HZ := Aside0.mk (HZ.out.then_ hf (fun _ h => .inl h)); clear hf)
      | (go_at_call 66; refine (total_gone _ _ ((HG.out _ (by simp)).fr HZ.out)).mono ?_; rintro e w7 ⟨rfl, hf⟩; have HZ := Aside0.mk (HZ.out.then_ hf (fun _ h => .inl h)); clear hf)
      | (go_at_call 68; refine (ticks_gone _ _ ((HG.out _ (by simp)).fr HZ.out)).mono ?_; rintro e w7 ⟨rfl, hf⟩; have HZ := Aside0.mk (HZ.out.then_ hf (fun _ h => .inl h)); clear hf)
      | (go_at_call 59; refine (copy_gone _ _ ((HG.out _ (by simp)).fr HZ.out)).mono ?_; rintro e w7 ⟨rfl, hf⟩; have HZ := Aside0.mk (HZ.out.then_ hf (fun _ h => .inl h)); clear hf)
      | (go_at_call 54; refine (known_walk _).mono ?_; rintro e w7 ⟨rfl, hf⟩; have HZ := Aside0.mk (HZ.out.then_ hf (fun _ h => .inl h)); clear hf))
    go_ret
    exact ⟨rfl, (HW.out.then_ HZ.out (fun _ h => .inl h)).no_below⟩
end Go.Proofs.Ytdpchfifaidamaa.L
