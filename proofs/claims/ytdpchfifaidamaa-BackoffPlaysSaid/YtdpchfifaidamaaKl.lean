/- The law's fixed calls. No condition. -/
import Derived.Test.YtdpchfifaidamaaKk
namespace Go.Proofs.Ytdpchfifaidamaa.K
open Go.RowKit Go.Maps Go.Proofs.YtdpchfifaidamaaW.PrintWords Go.Proofs.Ytdpchfifaidamaa.B
set_option linter.unusedVariables false
set_option linter.unusedSimpArgs false

structure BI (w wr : World) (g b : Nat) (v : Value) (base n : Nat) (L : List N3) (F M R : Int) : Prop where
  bt : BT wr g b v base n L F M R
  fr : Below w.heap.size w wr
  g0 : w.heap.size ≤ g
  b0 : w.heap.size ≤ b
  base0 : w.heap.size ≤ base
section
variable {w wr w' : World} {g b : Nat} {v : Value} {base n : Nat} {L : List N3} {F M R : Int}
theorem BI.no (h : BI w wr g b v base n L F M R) (hk : Fr no wr w') : BI w w' g b v base n L F M R := ⟨h.bt.no hk, below_fr h.fr hk (fun _ h => h.elim), h.g0, h.b0, h.base0⟩
theorem BI.sb (h : BI w wr g b v base n L F M R) (k : Nat) (hk : SB g b v k) : w.heap.size ≤ k := by
  rcases hk with rfl | rfl | hk
  · exact h.g0
  · exact h.b0
  · exact Nat.le_trans h.base0 (h.bt.own.base_le hk)
theorem BI.step (h : BI w wr g b v base n L F M R) {n' : Nat} {L' : List N3} {r : Value} {e : Ending} (hp : BPost wr g b v base n' L' F M R r e w') : ∃ v', e = .returned r ∧ BI w w' g b v' base n' L' F M R := by
  obtain ⟨v', e1, e2, e3⟩ := hp
  exact ⟨v', e1, e2, below_fr h.fr e3 h.sb, h.g0, h.b0, h.base0⟩
end
theorem kd_lit {w : World} {k : Nat} {l : List ByteArray} (h : w.heap[k]? = some (.cells (strs l).toArray 9 (0, 0))) (hl : l.length ≤ 9223372036854775807) : Kd.C Kd.string w (some ⟨k, 0, none⟩) l.length l :=
  Kd.C_of_reads (enc := Value.string) (h1 := fun _ => rfl) (d := ByteArray.empty) ⟨rfl, hl, fun _ => ⟨_, rfl, fun j hj => by
    rw [add_plain, cell_of_row w k j _ 9 (0, 0) h]
    simp [strs, encs, List.getElem?_eq_getElem hj, List.getD_eq_getElem?_getD]⟩⟩
def sG : ByteArray := ⟨#[103]⟩
def sH : ByteArray := ⟨#[104]⟩
theorem size_sG : sG.size ≤ maxLen := by simp [sG, maxLen, ByteArray.size]
theorem size_sH : sH.size ≤ maxLen := by simp [sH, maxLen, ByteArray.size]
theorem par_known : Par 2 6 100 := ⟨by omega, by omega, by omega, by omega, by omega⟩
theorem par_bad : ¬ Par 0 1 1 := fun h => by have := h.f1; omega

theorem k1 : failL 2 6 100 [] sG 0 = ([⟨sG, 2, 2⟩], 2) := by decide +kernel
theorem k2 : failL 2 6 100 [⟨sG, 2, 2⟩] sG 2 = ([⟨sG, 4, 6⟩], 4) := by decide +kernel
theorem k3 : failL 2 6 100 [⟨sG, 4, 6⟩] sG 6 = ([⟨sG, 6, 12⟩], 6) := by decide +kernel
theorem k4 : failL 2 6 100 [⟨sG, 6, 12⟩] sG 12 = ([⟨sG, 6, 18⟩], 6) := by decide +kernel
theorem k5 : failL 2 6 100 [⟨sG, 6, 18⟩] sG 200 = ([⟨sG, 2, 202⟩], 2) := by decide +kernel
theorem ok1 (c t : Int) (h : (0 ≤ c ∧ c ≤ 1000) ∧ 0 ≤ t ∧ t ≤ 1000) : LOk [⟨sG, c, t⟩] 1 := by
  refine ⟨fun n hn => ?_, by simp, by simp⟩
  simp at hn
  subst hn
  exact ⟨size_sG, by show 0 ≤ c; omega, by show c ≤ _; omega, by show 0 ≤ t; omega, by show t ≤ _; omega⟩

set_option maxRecDepth 100000 in
set_option maxHeartbeats 2000000 in
theorem known_calls (w : World) : Calls Try.prog 38 #[] w fun e w' => e = .returned (.bool true) ∧ Below w.heap.size w w' := by
  go_enter Try.func38, Try.ntmps38
  go_wp2_with fail
  refine (new_yes _ 2 6 100 par_known).mono ?_
  rintro e w1 ⟨g, b, rfl, ht1, hf1, hg1, hb1⟩
  have HI1 := Aside0.mk (show BI w w1 g b _ _ 0 [] 2 6 100 from ⟨ht1, hf1.no_below, hg1, hb1, Nat.le_refl _⟩)
  clear ht1 hf1 hg1 hb1
  go_wp2_with fail
  refine (new_no _ 0 1 1 par_bad).mono ?_
  rintro e w' ⟨rfl, rfl⟩
  go_wp2_with fail
  have HF1 := Aside0.mk (fail_calls _ g b _ _ 0 [] 2 6 100 sG 0 HI1.out.bt size_sG (by omega) (LOk.nil 1) (by omega))
  rw [k1] at HF1
  refine HF1.out.mono ?_
  intro e w2 hp
  obtain ⟨v2, rfl, hi2⟩ := HI1.out.step hp
  have HI2 := Aside0.mk hi2
  clear hp hi2 HF1
  go_wp2_with fail
  have HF2 := Aside0.mk (fail_calls _ g b _ _ _ _ 2 6 100 sG 2 HI2.out.bt size_sG (by omega) (ok1 2 2 (by omega)) (by omega))
  rw [k2] at HF2
  refine HF2.out.mono ?_
  intro e w3 hp
  obtain ⟨v3, rfl, hi3⟩ := HI2.out.step hp
  have HI3 := Aside0.mk hi3
  clear hp hi3 HF2
  go_wp2_with fail
  have HM1 := Aside0.mk (may_calls _ g b _ _ _ _ 2 6 100 sG 5 HI3.out.bt size_sG)
  rw [show mayB [⟨sG, 4, 6⟩] sG 5 = false from by decide +kernel] at HM1
  refine HM1.out.mono ?_
  rintro e w4 ⟨rfl, hf4⟩
  have HI4 := Aside0.mk (HI3.out.no hf4)
  clear hf4 HM1
  go_wp2_with fail
  have HM2 := Aside0.mk (may_calls _ g b _ _ _ _ 2 6 100 sG 6 HI4.out.bt size_sG)
  rw [show mayB [⟨sG, 4, 6⟩] sG 6 = true from by decide +kernel] at HM2
  refine HM2.out.mono ?_
  rintro e w5 ⟨rfl, hf5⟩
  have HI5 := Aside0.mk (HI4.out.no hf5)
  clear hf5 HM2
  go_wp2_with fail
  have HM3 := Aside0.mk (may_calls _ g b _ _ _ _ 2 6 100 sH 0 HI5.out.bt size_sH)
  rw [show mayB [⟨sG, 4, 6⟩] sH 0 = true from by decide +kernel] at HM3
  refine HM3.out.mono ?_
  rintro e w6 ⟨rfl, hf6⟩
  have HI6 := Aside0.mk (HI5.out.no hf6)
  clear hf6 HM3
  go_wp2_with fail
  have HF3 := Aside0.mk (fail_calls _ g b _ _ _ _ 2 6 100 sG 6 HI6.out.bt size_sG (by omega) (ok1 4 6 (by omega)) (by omega))
  rw [k3] at HF3
  refine HF3.out.mono ?_
  intro e w7 hp
  obtain ⟨v7, rfl, hi7⟩ := HI6.out.step hp
  have HI7 := Aside0.mk hi7
  clear hp hi7 HF3
  go_wp2_with fail
  have HF4 := Aside0.mk (fail_calls _ g b _ _ _ _ 2 6 100 sG 12 HI7.out.bt size_sG (by omega) (ok1 6 12 (by omega)) (by omega))
  rw [k4] at HF4
  refine HF4.out.mono ?_
  intro e w8 hp
  obtain ⟨v8, rfl, hi8⟩ := HI7.out.step hp
  have HI8 := Aside0.mk hi8
  clear hp hi8 HF4
  go_wp2_with fail
  have HF5 := Aside0.mk (fail_calls _ g b _ _ _ _ 2 6 100 sG 200 HI8.out.bt size_sG (by omega) (ok1 6 18 (by omega)) (by omega))
  rw [k5] at HF5
  refine HF5.out.mono ?_
  intro e w9 hp
  obtain ⟨v9, rfl, hi9⟩ := HI8.out.step hp
  have HI9 := Aside0.mk hi9
  clear hp hi9 HF5
  go_wp2_with fail
  have HU := Aside0.mk (until_calls _ g b _ _ _ _ 2 6 100 sG HI9.out.bt size_sG)
  rw [show nt [⟨sG, 2, 202⟩] sG = 202 from by decide +kernel] at HU
  refine HU.out.mono ?_
  rintro e w10 ⟨rfl, hf10⟩
  have HI10 := Aside0.mk (HI9.out.no hf10)
  clear hf10 HU
  go_wp2_with fail
  have HL := Aside0.mk (length_calls _ g b _ _ _ _ 2 6 100 sG HI10.out.bt size_sG)
  rw [show nl [⟨sG, 2, 202⟩] sG = 2 from by decide +kernel] at HL
  refine HL.out.mono ?_
  rintro e w11 ⟨rfl, hf11⟩
  have HI11 := Aside0.mk (HI10.out.no hf11)
  clear hf11 HL
  go_wp2_with fail
  refine (groups_calls _ g b _ _ _ _ 2 6 100 HI11.out.bt (by simp)).mono ?_
  rintro e w12 ⟨v12, rfl, ho12, hf12⟩
  obtain ⟨A12, c12, rfl, hle12, hC12⟩ := ho12.form
  have HI12 := Aside0.mk (HI11.out.no hf12)
  have HC12 := Aside0.mk (Kd.C_below hC12 (Fr.no_below ((Fr.refl w12 no).alloc (.cells #[.string sG] 9))))
  clear ho12 hle12 hC12 hf12
  go_wp2_with fail
  refine (texts_calls _ A12 c12 [sG] (some ⟨w12.heap.size, 0, none⟩) 1 [sG] HC12.out (kd_lit (heap_alloc_new w12 _) (by decide)) (by decide)).mono ?_
  rintro e w13 ⟨rfl, m13, hm13⟩
  have HI13 := Aside0.mk (HI12.out.no (w' := w13) (by rw [hm13]; exact ((Fr.refl w12 no).alloc _).drewN m13))
  rw [show decide ([sG] = [sG]) = true from by decide +kernel]
  clear hm13
  go_wp2_with fail
  refine (fine_calls _ g b _ _ _ _ 2 6 100 sG HI13.out.bt size_sG (by simp) (by simp)).mono ?_
  intro e w14 hp
  obtain ⟨v14, rfl, hi14⟩ := HI13.out.step hp
  rw [show [(⟨sG, 2, 202⟩ : N3)].filter (keep3 sG) = [] from by decide +kernel] at hi14
  have HI14 := Aside0.mk hi14
  clear hp hi14
  go_wp2_with fail
  have HM4 := Aside0.mk (may_calls _ g b _ _ _ _ 2 6 100 sG 0 HI14.out.bt size_sG)
  rw [show mayB [] sG 0 = true from by decide +kernel] at HM4
  refine HM4.out.mono ?_
  rintro e w15 ⟨rfl, hf15⟩
  have HI15 := Aside0.mk (HI14.out.no hf15)
  clear hf15 HM4
  go_wp2_with fail
  have HU2 := Aside0.mk (until_calls _ g b _ _ _ _ 2 6 100 sG HI15.out.bt size_sG)
  rw [show nt [] sG = 0 from by decide +kernel] at HU2
  refine HU2.out.mono ?_
  rintro e w16 ⟨rfl, hf16⟩
  have HI16 := Aside0.mk (HI15.out.no hf16)
  clear hf16 HU2
  go_wp2_with fail
  refine (groups_calls _ g b _ _ _ _ 2 6 100 HI16.out.bt (by simp)).mono ?_
  rintro e w17 ⟨v17, rfl, ho17, hf17⟩
  obtain ⟨A17, c17, rfl, hle17, hC17⟩ := ho17.form
  have HI17 := Aside0.mk (HI16.out.no hf17)
  clear ho17 hle17 hC17 hf17
  go_wp2_with fail
  go_ret
  exact ⟨rfl, HI17.out.fr⟩
end Go.Proofs.Ytdpchfifaidamaa.K
