/- After the kit's print of LedgerTells, part 8: same definitions and proofs, fewer words imported (wip/gen_v.py). No condition. -/
import Derived.Test.YtdpchfifaidamaaV0
import Derived.Test.YtdpchfifaidamaaV3
import Derived.Test.YtdpchfifaidamaaV5
import Derived.Test.YtdpchfifaidamaaV7
namespace Go.Proofs.Ytdpchfifaidamaa.PLedgerTells
open Go.RowKit Go.Proofs.YtdpchfifaidamaaW.PrintWords Go.Proofs.YtdpchfifaidamaaW.PrintLast
set_option linter.unusedVariables false
set_option linter.unusedSimpArgs false

/-! ### triremeref07_RightGroup: function 103 -/
def triremeref07_RightGroup.f (k : Nat) (a0_0 : ByteArray) (a0_1 : Int) (a0_2 : Int) (a0_3 : ByteArray) (a0_4 : ByteArray) (a0_5 : Int) (a0_6 : Int) (a0_7 : Int) (a0_8 : Int) (a0_9 : Int) (l0_10 : List (S83)) (l0_11 : List (S157)) (a0_12 : Bool) (a0_13 : Int) (a0_14 : Int) : Option (Bool) := (triremeref01_Word.f k a0_0).bind fun t178 => (if t178 = true then ((triremeref07_in.f a0_2 1 200).bind fun t179 => (if t179 = true then ((triremeref07_in.f a0_1 0 a0_2).bind fun t180 => (if t180 = true then ((triremeref07_in.f a0_13 0 1125899906842624).bind fun t181 => (if t181 = true then ((triremeref07_in.f a0_14 0 1000).bind fun t182 => (if t182 = true then ((triremeref07_RightMachine.f k a0_3 a0_4 a0_5 a0_6 a0_7 a0_8 a0_9 l0_10 l0_11 a0_12).bind fun t183 => (if t183 = true then (if a0_3.toList = ([] : List UInt8) then (if a0_4.toList = a0_0.toList then (some a0_12) else (some false)) else (some false)) else (some false))) else (some false))) else (some false))) else (some false))) else (some false))) else (some false))
theorem triremeref07_RightGroup.mono : ∀ a0 a1 a2 a3 a4 a5 a6 a7 a8 a9 a10 a11 a12 a13 a14 k, LeO (triremeref07_RightGroup.f k a0 a1 a2 a3 a4 a5 a6 a7 a8 a9 a10 a11 a12 a13 a14) (triremeref07_RightGroup.f (k + 1) a0 a1 a2 a3 a4 a5 a6 a7 a8 a9 a10 a11 a12 a13 a14) := by
  intro a0 a1 a2 a3 a4 a5 a6 a7 a8 a9 a10 a11 a12 a13 a14 k
  unfold triremeref07_RightGroup.f
  repeat' first
      | (with_reducible exact triremeref01_Word.mono _ _)
      | (with_reducible exact triremeref07_RightMachine.mono _ _ _ _ _ _ _ _ _ _ _)
      | (with_reducible exact LeO.refl _)
      | (with_reducible exact LeO.none _)
      | (with_reducible refine LeO.ite ?_ ?_)
      | (with_reducible refine LeO.bind ?_ (fun _ => ?_))
      | exact triremeref01_Word.mono _ _
      | exact triremeref07_RightMachine.mono _ _ _ _ _ _ _ _ _ _ _
      | exact LeO.none _
      | refine LeO.ite ?_ ?_
      | refine LeO.bind ?_ (fun _ => ?_)
set_option maxHeartbeats 8000000 in
set_option maxRecDepth 100000 in
theorem triremeref07_RightGroup.calls (k : Nat) (a0_0 : ByteArray) (a0_1 : Int) (a0_2 : Int) (a0_3 : ByteArray) (a0_4 : ByteArray) (a0_5 : Int) (a0_6 : Int) (a0_7 : Int) (a0_8 : Int) (a0_9 : Int) (A0_10 : Option Addr) (c0_10 : Nat) (l0_10 : List (S83)) (A0_11 : Option Addr) (c0_11 : Nat) (l0_11 : List (S157)) (a0_12 : Bool) (a0_13 : Int) (a0_14 : Int) (r : Bool) (w : World) (hr0_10 : Kd.C k83 w A0_10 l0_10.length l0_10) (hc0_10 : l0_10.length ≤ c0_10) (hr0_11 : Kd.C k157 w A0_11 l0_11.length l0_11) (hc0_11 : l0_11.length ≤ c0_11) (h : triremeref07_RightGroup.f k a0_0 a0_1 a0_2 a0_3 a0_4 a0_5 a0_6 a0_7 a0_8 a0_9 l0_10 l0_11 a0_12 a0_13 a0_14 = some r) :
    Calls Try.prog 103 #[.agg #[.string a0_0, .int .i64 a0_1, .int .i64 a0_2, .string a0_3, .string a0_4, .int .i64 a0_5, .int .i64 a0_6, .int .i64 a0_7, .int .i64 a0_8, .int .i64 a0_9, .slice A0_10 l0_10.length c0_10, .slice A0_11 l0_11.length c0_11, .bool a0_12, .int .i64 a0_13, .int .i64 a0_14]] w fun e w' => e = .returned (.bool r) ∧ Below w.heap.size w w' := by
  have hu76 := Try.underlying76
  have hu74 := Try.underlying74
  have HR0_10 := Aside0.mk hr0_10
  have HC0_10 := Aside0.mk hc0_10
  clear hr0_10 hc0_10
  have HR0_11 := Aside0.mk hr0_11
  have HC0_11 := Aside0.mk hc0_11
  clear hr0_11 hc0_11
  have HB := Aside0.mk (Below.refl w.heap.size w)
  have H : ((triremeref01_Word.f k a0_0).bind fun t178 => (if t178 = true then ((triremeref07_in.f a0_2 1 200).bind fun t179 => (if t179 = true then ((triremeref07_in.f a0_1 0 a0_2).bind fun t180 => (if t180 = true then ((triremeref07_in.f a0_13 0 1125899906842624).bind fun t181 => (if t181 = true then ((triremeref07_in.f a0_14 0 1000).bind fun t182 => (if t182 = true then ((triremeref07_RightMachine.f k a0_3 a0_4 a0_5 a0_6 a0_7 a0_8 a0_9 l0_10 l0_11 a0_12).bind fun t183 => (if t183 = true then (if a0_3.toList = ([] : List UInt8) then (if a0_4.toList = a0_0.toList then (some a0_12) else (some false)) else (some false)) else (some false))) else (some false))) else (some false))) else (some false))) else (some false))) else (some false))) = some r := h
  clear h
  replace H := Option.bind_eq_some_iff.mp H
  obtain ⟨t178, A20, H⟩ := H
  replace H : (if t178 = true then ((triremeref07_in.f a0_2 1 200).bind fun t179 => (if t179 = true then ((triremeref07_in.f a0_1 0 a0_2).bind fun t180 => (if t180 = true then ((triremeref07_in.f a0_13 0 1125899906842624).bind fun t181 => (if t181 = true then ((triremeref07_in.f a0_14 0 1000).bind fun t182 => (if t182 = true then ((triremeref07_RightMachine.f k a0_3 a0_4 a0_5 a0_6 a0_7 a0_8 a0_9 l0_10 l0_11 a0_12).bind fun t183 => (if t183 = true then (if a0_3.toList = ([] : List UInt8) then (if a0_4.toList = a0_0.toList then (some a0_12) else (some false)) else (some false)) else (some false))) else (some false))) else (some false))) else (some false))) else (some false))) else (some false)) = some r := H
  have A2 := Aside0.mk A20
  clear A20
  by_cases c3 : t178 = true
  · subst c3
    have H1 : ((triremeref07_in.f a0_2 1 200).bind fun t179 => (if t179 = true then ((triremeref07_in.f a0_1 0 a0_2).bind fun t180 => (if t180 = true then ((triremeref07_in.f a0_13 0 1125899906842624).bind fun t181 => (if t181 = true then ((triremeref07_in.f a0_14 0 1000).bind fun t182 => (if t182 = true then ((triremeref07_RightMachine.f k a0_3 a0_4 a0_5 a0_6 a0_7 a0_8 a0_9 l0_10 l0_11 a0_12).bind fun t183 => (if t183 = true then (if a0_3.toList = ([] : List UInt8) then (if a0_4.toList = a0_0.toList then (some a0_12) else (some false)) else (some false)) else (some false))) else (some false))) else (some false))) else (some false))) else (some false))) = some r := by rw [if_pos rfl] at H; exact H
    clear H
    have H := H1
    clear H1
    replace H := Option.bind_eq_some_iff.mp H
    obtain ⟨t179, A40, H⟩ := H
    replace H : (if t179 = true then ((triremeref07_in.f a0_1 0 a0_2).bind fun t180 => (if t180 = true then ((triremeref07_in.f a0_13 0 1125899906842624).bind fun t181 => (if t181 = true then ((triremeref07_in.f a0_14 0 1000).bind fun t182 => (if t182 = true then ((triremeref07_RightMachine.f k a0_3 a0_4 a0_5 a0_6 a0_7 a0_8 a0_9 l0_10 l0_11 a0_12).bind fun t183 => (if t183 = true then (if a0_3.toList = ([] : List UInt8) then (if a0_4.toList = a0_0.toList then (some a0_12) else (some false)) else (some false)) else (some false))) else (some false))) else (some false))) else (some false))) else (some false)) = some r := H
    have A4 := Aside0.mk A40
    clear A40
    by_cases c5 : t179 = true
    · subst c5
      have H1 : ((triremeref07_in.f a0_1 0 a0_2).bind fun t180 => (if t180 = true then ((triremeref07_in.f a0_13 0 1125899906842624).bind fun t181 => (if t181 = true then ((triremeref07_in.f a0_14 0 1000).bind fun t182 => (if t182 = true then ((triremeref07_RightMachine.f k a0_3 a0_4 a0_5 a0_6 a0_7 a0_8 a0_9 l0_10 l0_11 a0_12).bind fun t183 => (if t183 = true then (if a0_3.toList = ([] : List UInt8) then (if a0_4.toList = a0_0.toList then (some a0_12) else (some false)) else (some false)) else (some false))) else (some false))) else (some false))) else (some false))) = some r := by rw [if_pos rfl] at H; exact H
      clear H
      have H := H1
      clear H1
      replace H := Option.bind_eq_some_iff.mp H
      obtain ⟨t180, A60, H⟩ := H
      replace H : (if t180 = true then ((triremeref07_in.f a0_13 0 1125899906842624).bind fun t181 => (if t181 = true then ((triremeref07_in.f a0_14 0 1000).bind fun t182 => (if t182 = true then ((triremeref07_RightMachine.f k a0_3 a0_4 a0_5 a0_6 a0_7 a0_8 a0_9 l0_10 l0_11 a0_12).bind fun t183 => (if t183 = true then (if a0_3.toList = ([] : List UInt8) then (if a0_4.toList = a0_0.toList then (some a0_12) else (some false)) else (some false)) else (some false))) else (some false))) else (some false))) else (some false)) = some r := H
      have A6 := Aside0.mk A60
      clear A60
      by_cases c7 : t180 = true
      · subst c7
        have H1 : ((triremeref07_in.f a0_13 0 1125899906842624).bind fun t181 => (if t181 = true then ((triremeref07_in.f a0_14 0 1000).bind fun t182 => (if t182 = true then ((triremeref07_RightMachine.f k a0_3 a0_4 a0_5 a0_6 a0_7 a0_8 a0_9 l0_10 l0_11 a0_12).bind fun t183 => (if t183 = true then (if a0_3.toList = ([] : List UInt8) then (if a0_4.toList = a0_0.toList then (some a0_12) else (some false)) else (some false)) else (some false))) else (some false))) else (some false))) = some r := by rw [if_pos rfl] at H; exact H
        clear H
        have H := H1
        clear H1
        replace H := Option.bind_eq_some_iff.mp H
        obtain ⟨t181, A80, H⟩ := H
        replace H : (if t181 = true then ((triremeref07_in.f a0_14 0 1000).bind fun t182 => (if t182 = true then ((triremeref07_RightMachine.f k a0_3 a0_4 a0_5 a0_6 a0_7 a0_8 a0_9 l0_10 l0_11 a0_12).bind fun t183 => (if t183 = true then (if a0_3.toList = ([] : List UInt8) then (if a0_4.toList = a0_0.toList then (some a0_12) else (some false)) else (some false)) else (some false))) else (some false))) else (some false)) = some r := H
        have A8 := Aside0.mk A80
        clear A80
        by_cases c9 : t181 = true
        · subst c9
          have H1 : ((triremeref07_in.f a0_14 0 1000).bind fun t182 => (if t182 = true then ((triremeref07_RightMachine.f k a0_3 a0_4 a0_5 a0_6 a0_7 a0_8 a0_9 l0_10 l0_11 a0_12).bind fun t183 => (if t183 = true then (if a0_3.toList = ([] : List UInt8) then (if a0_4.toList = a0_0.toList then (some a0_12) else (some false)) else (some false)) else (some false))) else (some false))) = some r := by rw [if_pos rfl] at H; exact H
          clear H
          have H := H1
          clear H1
          replace H := Option.bind_eq_some_iff.mp H
          obtain ⟨t182, A100, H⟩ := H
          replace H : (if t182 = true then ((triremeref07_RightMachine.f k a0_3 a0_4 a0_5 a0_6 a0_7 a0_8 a0_9 l0_10 l0_11 a0_12).bind fun t183 => (if t183 = true then (if a0_3.toList = ([] : List UInt8) then (if a0_4.toList = a0_0.toList then (some a0_12) else (some false)) else (some false)) else (some false))) else (some false)) = some r := H
          have A10 := Aside0.mk A100
          clear A100
          by_cases c11 : t182 = true
          · subst c11
            have H1 : ((triremeref07_RightMachine.f k a0_3 a0_4 a0_5 a0_6 a0_7 a0_8 a0_9 l0_10 l0_11 a0_12).bind fun t183 => (if t183 = true then (if a0_3.toList = ([] : List UInt8) then (if a0_4.toList = a0_0.toList then (some a0_12) else (some false)) else (some false)) else (some false))) = some r := by rw [if_pos rfl] at H; exact H
            clear H
            have H := H1
            clear H1
            replace H := Option.bind_eq_some_iff.mp H
            obtain ⟨t183, A120, H⟩ := H
            replace H : (if t183 = true then (if a0_3.toList = ([] : List UInt8) then (if a0_4.toList = a0_0.toList then (some a0_12) else (some false)) else (some false)) else (some false)) = some r := H
            have A12 := Aside0.mk A120
            clear A120
            by_cases c13 : t183 = true
            · subst c13
              have H1 : (if a0_3.toList = ([] : List UInt8) then (if a0_4.toList = a0_0.toList then (some a0_12) else (some false)) else (some false)) = some r := by rw [if_pos rfl] at H; exact H
              clear H
              have H := H1
              clear H1
              by_cases c14 : a0_3.toList = ([] : List UInt8)
              · rw [if_pos c14] at H
                have c14b0 : (a0_3.toList == ([] : List UInt8)) = true := beq_iff_eq.mpr c14
                have c14b1 : (a0_3.toList != ([] : List UInt8)) = false := bne_eq_false_iff_eq.mpr c14
                clear c14
                by_cases c15 : a0_4.toList = a0_0.toList
                · rw [if_pos c15] at H
                  have c15b0 : (a0_4.toList == a0_0.toList) = true := beq_iff_eq.mpr c15
                  have c15b1 : (a0_4.toList != a0_0.toList) = false := bne_eq_false_iff_eq.mpr c15
                  clear c15
                  obtain rfl := Option.some.inj H
                  go_enter Try.func103, Try.ntmps103
                  go_wp2_with (first | ((with_reducible refine gate_dst (N := 1) rfl ?_); refine box_event ?hg (N := 1) ?hd (cs := #[.string a0_0, .int .i64 a0_1, .int .i64 a0_2, .string a0_3, .string a0_4, .int .i64 a0_5, .int .i64 a0_6, .int .i64 a0_7, .int .i64 a0_8, .int .i64 a0_9, .slice A0_10 l0_10.length c0_10, .slice A0_11 l0_11.length c0_11, .bool a0_12, .int .i64 a0_13, .int .i64 a0_14]) (t := 76) ?hr ?_; (case hd => rfl); (case hg => rfl); (case hr => first | (go_simp; done) | (go_simp; rfl)); intro gb177 hg w16 hbox hb; have n0_ := Aside0.mk (below_step (by repeat (first | (with_reducible first | exact HB.out | apply below_alloc | apply pw_below_drewN | apply below_drew1) | exact HB.out)) hb); have n1_ := Aside0.mk (hbox); have n2_ := Aside0.mk ((by rw [hg]; exact (below_size (by repeat (first | (with_reducible first | exact HB.out | apply below_alloc | apply pw_below_drewN | apply below_drew1) | exact HB.out))) : w.heap.size ≤ gb177)); have n3_ := Aside0.mk ((by rw [hg]; exact (below_size (by repeat (first | (with_reducible first | exact HB.out | apply below_alloc | apply pw_below_drewN | apply below_drew1) | exact HB.out))) : w.heap.size ≤ gb177)); clear HB; have HB := n0_; have BK177 := n1_; have GW177 := n2_; have GE177 := n3_; clear n0_ n1_ n2_ n3_; clear hb hbox hg; have hcz17_0 : w16.cell? ⟨gb177, 0, none⟩ = some (.string a0_0) := (blk_cell BK177.out 0).trans rfl; have hcz17_1 : w16.cell? ⟨gb177, 1, none⟩ = some (.int .i64 a0_1) := (blk_cell BK177.out 1).trans rfl; have hcz17_2 : w16.cell? ⟨gb177, 2, none⟩ = some (.int .i64 a0_2) := (blk_cell BK177.out 2).trans rfl; have hcz17_3 : w16.cell? ⟨gb177, 3, none⟩ = some (.string a0_3) := (blk_cell BK177.out 3).trans rfl; have hcz17_4 : w16.cell? ⟨gb177, 4, none⟩ = some (.string a0_4) := (blk_cell BK177.out 4).trans rfl; have hcz17_5 : w16.cell? ⟨gb177, 5, none⟩ = some (.int .i64 a0_5) := (blk_cell BK177.out 5).trans rfl; have hcz17_6 : w16.cell? ⟨gb177, 6, none⟩ = some (.int .i64 a0_6) := (blk_cell BK177.out 6).trans rfl; have hcz17_7 : w16.cell? ⟨gb177, 7, none⟩ = some (.int .i64 a0_7) := (blk_cell BK177.out 7).trans rfl; have hcz17_8 : w16.cell? ⟨gb177, 8, none⟩ = some (.int .i64 a0_8) := (blk_cell BK177.out 8).trans rfl; have hcz17_9 : w16.cell? ⟨gb177, 9, none⟩ = some (.int .i64 a0_9) := (blk_cell BK177.out 9).trans rfl; have hcz17_10 : w16.cell? ⟨gb177, 10, none⟩ = some (.slice A0_10 l0_10.length c0_10) := (blk_cell BK177.out 10).trans rfl; have hcz17_11 : w16.cell? ⟨gb177, 11, none⟩ = some (.slice A0_11 l0_11.length c0_11) := (blk_cell BK177.out 11).trans rfl; have hcz17_12 : w16.cell? ⟨gb177, 12, none⟩ = some (.bool a0_12) := (blk_cell BK177.out 12).trans rfl; have hcz17_13 : w16.cell? ⟨gb177, 13, none⟩ = some (.int .i64 a0_13) := (blk_cell BK177.out 13).trans rfl; have hcz17_14 : w16.cell? ⟨gb177, 14, none⟩ = some (.int .i64 a0_14) := (blk_cell BK177.out 14).trans rfl; have hfz17_0 := blk_frozen BK177.out 0; have hfz17_1 := blk_frozen BK177.out 1; have hfz17_2 := blk_frozen BK177.out 2; have hfz17_3 := blk_frozen BK177.out 3; have hfz17_4 := blk_frozen BK177.out 4; have hfz17_5 := blk_frozen BK177.out 5; have hfz17_6 := blk_frozen BK177.out 6; have hfz17_7 := blk_frozen BK177.out 7; have hfz17_8 := blk_frozen BK177.out 8; have hfz17_9 := blk_frozen BK177.out 9; have hfz17_10 := blk_frozen BK177.out 10; have hfz17_11 := blk_frozen BK177.out 11; have hfz17_12 := blk_frozen BK177.out 12; have hfz17_13 := blk_frozen BK177.out 13; have hfz17_14 := blk_frozen BK177.out 14) | ((with_reducible refine gate_callee (f := 112) rfl ?_); refine goesL_ (some 5) rfl rfl Try.func112 (by kernel_rfl) rfl #[.string a0_0] rfl (by (try simp only [List.map_toArray, List.map_cons, List.map_nil]); first | done | rfl | (simp only [List.length_drop, List.length_take]; rfl)) ?_; (with_reducible refine (triremeref01_Word.calls k a0_0 true _ A2.out).mono ?_); rintro e w' ⟨rfl, ⟨nd, rfl⟩⟩; refine ⟨_, rfl, ?_⟩) | (go_at_call 125; (with_reducible refine (triremeref07_in.calls a0_2 1 200 true _ A4.out).mono ?_); rintro e w' ⟨rfl, ⟨nd, rfl⟩⟩) | (go_at_call 125; (with_reducible refine (triremeref07_in.calls a0_1 0 a0_2 true _ A6.out).mono ?_); rintro e w' ⟨rfl, ⟨nd, rfl⟩⟩) | (go_at_call 125; (with_reducible refine (triremeref07_in.calls a0_13 0 1125899906842624 true _ A8.out).mono ?_); rintro e w' ⟨rfl, ⟨nd, rfl⟩⟩) | (go_at_call 125; (with_reducible refine (triremeref07_in.calls a0_14 0 1000 true _ A10.out).mono ?_); rintro e w' ⟨rfl, ⟨nd, rfl⟩⟩) | (go_at_call 126; (with_reducible refine (triremeref07_RightMachine.calls k a0_3 a0_4 a0_5 a0_6 a0_7 a0_8 a0_9 _ _ l0_10 _ _ l0_11 a0_12 true _ ?side1 ?side2 ?side3 ?side4 A12.out).mono ?_); (case side1 => repeat (first | exact (Kd.C_below HR0_10.out (by repeat (first | (with_reducible first | exact HB.out | apply below_alloc | apply pw_below_drewN | apply below_drew1 | refine below_set ?_ GE177.out) | exact HB.out))) | (with_reducible refine Kd.C_alloc ?_ _) | (with_reducible refine Kd.C_drewN ?_ _) | (with_reducible refine Kd.C_drew ?_))); (case side2 => exact HC0_10.out); (case side3 => repeat (first | exact (Kd.C_below HR0_11.out (by repeat (first | (with_reducible first | exact HB.out | apply below_alloc | apply pw_below_drewN | apply below_drew1 | refine below_set ?_ GE177.out) | exact HB.out))) | (with_reducible refine Kd.C_alloc ?_ _) | (with_reducible refine Kd.C_drewN ?_ _) | (with_reducible refine Kd.C_drew ?_))); (case side4 => exact HC0_11.out); rintro e w18 ⟨rfl, hb⟩; have n0_ := Aside0.mk (blk_below (g := gb177) (o := .cells #[.string a0_0, .int .i64 a0_1, .int .i64 a0_2, .string a0_3, .string a0_4, .int .i64 a0_5, .int .i64 a0_6, .int .i64 a0_7, .int .i64 a0_8, .int .i64 a0_9, .slice A0_10 l0_10.length c0_10, .slice A0_11 l0_11.length c0_11, .bool a0_12, .int .i64 a0_13, .int .i64 a0_14] 76 (0, 0)) (by (with_reducible repeat (first | refine blk_drewN ?_ _ | refine blk_drew ?_ | refine blk_alloc ?_ _)); exact BK177.out) hb); have n1_ := Aside0.mk (below_step (by repeat (first | (with_reducible first | exact HB.out | apply below_alloc | apply pw_below_drewN | apply below_drew1 | refine below_set ?_ GE177.out) | exact HB.out)) hb); clear BK177; clear HB; have BK177 := n0_; have HB := n1_; clear n0_ n1_; (try clear hb); (try clear hb2); (try clear hk); (try clear hi); have hcz19_0 : w18.cell? ⟨gb177, 0, none⟩ = some (.string a0_0) := (blk_cell BK177.out 0).trans rfl; have hcz19_1 : w18.cell? ⟨gb177, 1, none⟩ = some (.int .i64 a0_1) := (blk_cell BK177.out 1).trans rfl; have hcz19_2 : w18.cell? ⟨gb177, 2, none⟩ = some (.int .i64 a0_2) := (blk_cell BK177.out 2).trans rfl; have hcz19_3 : w18.cell? ⟨gb177, 3, none⟩ = some (.string a0_3) := (blk_cell BK177.out 3).trans rfl; have hcz19_4 : w18.cell? ⟨gb177, 4, none⟩ = some (.string a0_4) := (blk_cell BK177.out 4).trans rfl; have hcz19_5 : w18.cell? ⟨gb177, 5, none⟩ = some (.int .i64 a0_5) := (blk_cell BK177.out 5).trans rfl; have hcz19_6 : w18.cell? ⟨gb177, 6, none⟩ = some (.int .i64 a0_6) := (blk_cell BK177.out 6).trans rfl; have hcz19_7 : w18.cell? ⟨gb177, 7, none⟩ = some (.int .i64 a0_7) := (blk_cell BK177.out 7).trans rfl; have hcz19_8 : w18.cell? ⟨gb177, 8, none⟩ = some (.int .i64 a0_8) := (blk_cell BK177.out 8).trans rfl; have hcz19_9 : w18.cell? ⟨gb177, 9, none⟩ = some (.int .i64 a0_9) := (blk_cell BK177.out 9).trans rfl; have hcz19_10 : w18.cell? ⟨gb177, 10, none⟩ = some (.slice A0_10 l0_10.length c0_10) := (blk_cell BK177.out 10).trans rfl; have hcz19_11 : w18.cell? ⟨gb177, 11, none⟩ = some (.slice A0_11 l0_11.length c0_11) := (blk_cell BK177.out 11).trans rfl; have hcz19_12 : w18.cell? ⟨gb177, 12, none⟩ = some (.bool a0_12) := (blk_cell BK177.out 12).trans rfl; have hcz19_13 : w18.cell? ⟨gb177, 13, none⟩ = some (.int .i64 a0_13) := (blk_cell BK177.out 13).trans rfl; have hcz19_14 : w18.cell? ⟨gb177, 14, none⟩ = some (.int .i64 a0_14) := (blk_cell BK177.out 14).trans rfl; have hfz19_0 := blk_frozen BK177.out 0; have hfz19_1 := blk_frozen BK177.out 1; have hfz19_2 := blk_frozen BK177.out 2; have hfz19_3 := blk_frozen BK177.out 3; have hfz19_4 := blk_frozen BK177.out 4; have hfz19_5 := blk_frozen BK177.out 5; have hfz19_6 := blk_frozen BK177.out 6; have hfz19_7 := blk_frozen BK177.out 7; have hfz19_8 := blk_frozen BK177.out 8; have hfz19_9 := blk_frozen BK177.out 9; have hfz19_10 := blk_frozen BK177.out 10; have hfz19_11 := blk_frozen BK177.out 11; have hfz19_12 := blk_frozen BK177.out 12; have hfz19_13 := blk_frozen BK177.out 13; have hfz19_14 := blk_frozen BK177.out 14))
                  go_ret
                  exact ⟨by first | rfl | (simp [errW_none, errW_some] <;> rfl) | (simp [*, errW_none, errW_some] <;> rfl), by repeat (first | (with_reducible first | exact HB.out | apply below_alloc | apply pw_below_drewN | apply below_drew1 | refine below_set ?_ GE177.out) | exact HB.out)⟩
                · rw [if_neg c15] at H
                  have c15b0 : (a0_4.toList == a0_0.toList) = false := beq_eq_false_iff_ne.mpr c15
                  have c15b1 : (a0_4.toList != a0_0.toList) = true := bne_iff_ne.mpr c15
                  obtain rfl := Option.some.inj H
                  go_enter Try.func103, Try.ntmps103
                  go_wp2_with (first | ((with_reducible refine gate_dst (N := 1) rfl ?_); refine box_event ?hg (N := 1) ?hd (cs := #[.string a0_0, .int .i64 a0_1, .int .i64 a0_2, .string a0_3, .string a0_4, .int .i64 a0_5, .int .i64 a0_6, .int .i64 a0_7, .int .i64 a0_8, .int .i64 a0_9, .slice A0_10 l0_10.length c0_10, .slice A0_11 l0_11.length c0_11, .bool a0_12, .int .i64 a0_13, .int .i64 a0_14]) (t := 76) ?hr ?_; (case hd => rfl); (case hg => rfl); (case hr => first | (go_simp; done) | (go_simp; rfl)); intro gb177 hg w20 hbox hb; have n0_ := Aside0.mk (below_step (by repeat (first | (with_reducible first | exact HB.out | apply below_alloc | apply pw_below_drewN | apply below_drew1) | exact HB.out)) hb); have n1_ := Aside0.mk (hbox); have n2_ := Aside0.mk ((by rw [hg]; exact (below_size (by repeat (first | (with_reducible first | exact HB.out | apply below_alloc | apply pw_below_drewN | apply below_drew1) | exact HB.out))) : w.heap.size ≤ gb177)); have n3_ := Aside0.mk ((by rw [hg]; exact (below_size (by repeat (first | (with_reducible first | exact HB.out | apply below_alloc | apply pw_below_drewN | apply below_drew1) | exact HB.out))) : w.heap.size ≤ gb177)); clear HB; have HB := n0_; have BK177 := n1_; have GW177 := n2_; have GE177 := n3_; clear n0_ n1_ n2_ n3_; clear hb hbox hg; have hcz21_0 : w20.cell? ⟨gb177, 0, none⟩ = some (.string a0_0) := (blk_cell BK177.out 0).trans rfl; have hcz21_1 : w20.cell? ⟨gb177, 1, none⟩ = some (.int .i64 a0_1) := (blk_cell BK177.out 1).trans rfl; have hcz21_2 : w20.cell? ⟨gb177, 2, none⟩ = some (.int .i64 a0_2) := (blk_cell BK177.out 2).trans rfl; have hcz21_3 : w20.cell? ⟨gb177, 3, none⟩ = some (.string a0_3) := (blk_cell BK177.out 3).trans rfl; have hcz21_4 : w20.cell? ⟨gb177, 4, none⟩ = some (.string a0_4) := (blk_cell BK177.out 4).trans rfl; have hcz21_5 : w20.cell? ⟨gb177, 5, none⟩ = some (.int .i64 a0_5) := (blk_cell BK177.out 5).trans rfl; have hcz21_6 : w20.cell? ⟨gb177, 6, none⟩ = some (.int .i64 a0_6) := (blk_cell BK177.out 6).trans rfl; have hcz21_7 : w20.cell? ⟨gb177, 7, none⟩ = some (.int .i64 a0_7) := (blk_cell BK177.out 7).trans rfl; have hcz21_8 : w20.cell? ⟨gb177, 8, none⟩ = some (.int .i64 a0_8) := (blk_cell BK177.out 8).trans rfl; have hcz21_9 : w20.cell? ⟨gb177, 9, none⟩ = some (.int .i64 a0_9) := (blk_cell BK177.out 9).trans rfl; have hcz21_10 : w20.cell? ⟨gb177, 10, none⟩ = some (.slice A0_10 l0_10.length c0_10) := (blk_cell BK177.out 10).trans rfl; have hcz21_11 : w20.cell? ⟨gb177, 11, none⟩ = some (.slice A0_11 l0_11.length c0_11) := (blk_cell BK177.out 11).trans rfl; have hcz21_12 : w20.cell? ⟨gb177, 12, none⟩ = some (.bool a0_12) := (blk_cell BK177.out 12).trans rfl; have hcz21_13 : w20.cell? ⟨gb177, 13, none⟩ = some (.int .i64 a0_13) := (blk_cell BK177.out 13).trans rfl; have hcz21_14 : w20.cell? ⟨gb177, 14, none⟩ = some (.int .i64 a0_14) := (blk_cell BK177.out 14).trans rfl; have hfz21_0 := blk_frozen BK177.out 0; have hfz21_1 := blk_frozen BK177.out 1; have hfz21_2 := blk_frozen BK177.out 2; have hfz21_3 := blk_frozen BK177.out 3; have hfz21_4 := blk_frozen BK177.out 4; have hfz21_5 := blk_frozen BK177.out 5; have hfz21_6 := blk_frozen BK177.out 6; have hfz21_7 := blk_frozen BK177.out 7; have hfz21_8 := blk_frozen BK177.out 8; have hfz21_9 := blk_frozen BK177.out 9; have hfz21_10 := blk_frozen BK177.out 10; have hfz21_11 := blk_frozen BK177.out 11; have hfz21_12 := blk_frozen BK177.out 12; have hfz21_13 := blk_frozen BK177.out 13; have hfz21_14 := blk_frozen BK177.out 14) | ((with_reducible refine gate_callee (f := 112) rfl ?_); refine goesL_ (some 5) rfl rfl Try.func112 (by kernel_rfl) rfl #[.string a0_0] rfl (by (try simp only [List.map_toArray, List.map_cons, List.map_nil]); first | done | rfl | (simp only [List.length_drop, List.length_take]; rfl)) ?_; (with_reducible refine (triremeref01_Word.calls k a0_0 true _ A2.out).mono ?_); rintro e w' ⟨rfl, ⟨nd, rfl⟩⟩; refine ⟨_, rfl, ?_⟩) | (go_at_call 125; (with_reducible refine (triremeref07_in.calls a0_2 1 200 true _ A4.out).mono ?_); rintro e w' ⟨rfl, ⟨nd, rfl⟩⟩) | (go_at_call 125; (with_reducible refine (triremeref07_in.calls a0_1 0 a0_2 true _ A6.out).mono ?_); rintro e w' ⟨rfl, ⟨nd, rfl⟩⟩) | (go_at_call 125; (with_reducible refine (triremeref07_in.calls a0_13 0 1125899906842624 true _ A8.out).mono ?_); rintro e w' ⟨rfl, ⟨nd, rfl⟩⟩) | (go_at_call 125; (with_reducible refine (triremeref07_in.calls a0_14 0 1000 true _ A10.out).mono ?_); rintro e w' ⟨rfl, ⟨nd, rfl⟩⟩) | (go_at_call 126; (with_reducible refine (triremeref07_RightMachine.calls k a0_3 a0_4 a0_5 a0_6 a0_7 a0_8 a0_9 _ _ l0_10 _ _ l0_11 a0_12 true _ ?side1 ?side2 ?side3 ?side4 A12.out).mono ?_); (case side1 => repeat (first | exact (Kd.C_below HR0_10.out (by repeat (first | (with_reducible first | exact HB.out | apply below_alloc | apply pw_below_drewN | apply below_drew1 | refine below_set ?_ GE177.out) | exact HB.out))) | (with_reducible refine Kd.C_alloc ?_ _) | (with_reducible refine Kd.C_drewN ?_ _) | (with_reducible refine Kd.C_drew ?_))); (case side2 => exact HC0_10.out); (case side3 => repeat (first | exact (Kd.C_below HR0_11.out (by repeat (first | (with_reducible first | exact HB.out | apply below_alloc | apply pw_below_drewN | apply below_drew1 | refine below_set ?_ GE177.out) | exact HB.out))) | (with_reducible refine Kd.C_alloc ?_ _) | (with_reducible refine Kd.C_drewN ?_ _) | (with_reducible refine Kd.C_drew ?_))); (case side4 => exact HC0_11.out); rintro e w22 ⟨rfl, hb⟩; have n0_ := Aside0.mk (blk_below (g := gb177) (o := .cells #[.string a0_0, .int .i64 a0_1, .int .i64 a0_2, .string a0_3, .string a0_4, .int .i64 a0_5, .int .i64 a0_6, .int .i64 a0_7, .int .i64 a0_8, .int .i64 a0_9, .slice A0_10 l0_10.length c0_10, .slice A0_11 l0_11.length c0_11, .bool a0_12, .int .i64 a0_13, .int .i64 a0_14] 76 (0, 0)) (by (with_reducible repeat (first | refine blk_drewN ?_ _ | refine blk_drew ?_ | refine blk_alloc ?_ _)); exact BK177.out) hb); have n1_ := Aside0.mk (below_step (by repeat (first | (with_reducible first | exact HB.out | apply below_alloc | apply pw_below_drewN | apply below_drew1 | refine below_set ?_ GE177.out) | exact HB.out)) hb); clear BK177; clear HB; have BK177 := n0_; have HB := n1_; clear n0_ n1_; (try clear hb); (try clear hb2); (try clear hk); (try clear hi); have hcz23_0 : w22.cell? ⟨gb177, 0, none⟩ = some (.string a0_0) := (blk_cell BK177.out 0).trans rfl; have hcz23_1 : w22.cell? ⟨gb177, 1, none⟩ = some (.int .i64 a0_1) := (blk_cell BK177.out 1).trans rfl; have hcz23_2 : w22.cell? ⟨gb177, 2, none⟩ = some (.int .i64 a0_2) := (blk_cell BK177.out 2).trans rfl; have hcz23_3 : w22.cell? ⟨gb177, 3, none⟩ = some (.string a0_3) := (blk_cell BK177.out 3).trans rfl; have hcz23_4 : w22.cell? ⟨gb177, 4, none⟩ = some (.string a0_4) := (blk_cell BK177.out 4).trans rfl; have hcz23_5 : w22.cell? ⟨gb177, 5, none⟩ = some (.int .i64 a0_5) := (blk_cell BK177.out 5).trans rfl; have hcz23_6 : w22.cell? ⟨gb177, 6, none⟩ = some (.int .i64 a0_6) := (blk_cell BK177.out 6).trans rfl; have hcz23_7 : w22.cell? ⟨gb177, 7, none⟩ = some (.int .i64 a0_7) := (blk_cell BK177.out 7).trans rfl; have hcz23_8 : w22.cell? ⟨gb177, 8, none⟩ = some (.int .i64 a0_8) := (blk_cell BK177.out 8).trans rfl; have hcz23_9 : w22.cell? ⟨gb177, 9, none⟩ = some (.int .i64 a0_9) := (blk_cell BK177.out 9).trans rfl; have hcz23_10 : w22.cell? ⟨gb177, 10, none⟩ = some (.slice A0_10 l0_10.length c0_10) := (blk_cell BK177.out 10).trans rfl; have hcz23_11 : w22.cell? ⟨gb177, 11, none⟩ = some (.slice A0_11 l0_11.length c0_11) := (blk_cell BK177.out 11).trans rfl; have hcz23_12 : w22.cell? ⟨gb177, 12, none⟩ = some (.bool a0_12) := (blk_cell BK177.out 12).trans rfl; have hcz23_13 : w22.cell? ⟨gb177, 13, none⟩ = some (.int .i64 a0_13) := (blk_cell BK177.out 13).trans rfl; have hcz23_14 : w22.cell? ⟨gb177, 14, none⟩ = some (.int .i64 a0_14) := (blk_cell BK177.out 14).trans rfl; have hfz23_0 := blk_frozen BK177.out 0; have hfz23_1 := blk_frozen BK177.out 1; have hfz23_2 := blk_frozen BK177.out 2; have hfz23_3 := blk_frozen BK177.out 3; have hfz23_4 := blk_frozen BK177.out 4; have hfz23_5 := blk_frozen BK177.out 5; have hfz23_6 := blk_frozen BK177.out 6; have hfz23_7 := blk_frozen BK177.out 7; have hfz23_8 := blk_frozen BK177.out 8; have hfz23_9 := blk_frozen BK177.out 9; have hfz23_10 := blk_frozen BK177.out 10; have hfz23_11 := blk_frozen BK177.out 11; have hfz23_12 := blk_frozen BK177.out 12; have hfz23_13 := blk_frozen BK177.out 13; have hfz23_14 := blk_frozen BK177.out 14))
                  go_ret
                  exact ⟨by first | rfl | (simp [errW_none, errW_some] <;> rfl) | (simp [*, errW_none, errW_some] <;> rfl), by repeat (first | (with_reducible first | exact HB.out | apply below_alloc | apply pw_below_drewN | apply below_drew1 | refine below_set ?_ GE177.out) | exact HB.out)⟩
              · rw [if_neg c14] at H
                have c14b0 : (a0_3.toList == ([] : List UInt8)) = false := beq_eq_false_iff_ne.mpr c14
                have c14b1 : (a0_3.toList != ([] : List UInt8)) = true := bne_iff_ne.mpr c14
                obtain rfl := Option.some.inj H
                go_enter Try.func103, Try.ntmps103
                go_wp2_with (first | ((with_reducible refine gate_dst (N := 1) rfl ?_); refine box_event ?hg (N := 1) ?hd (cs := #[.string a0_0, .int .i64 a0_1, .int .i64 a0_2, .string a0_3, .string a0_4, .int .i64 a0_5, .int .i64 a0_6, .int .i64 a0_7, .int .i64 a0_8, .int .i64 a0_9, .slice A0_10 l0_10.length c0_10, .slice A0_11 l0_11.length c0_11, .bool a0_12, .int .i64 a0_13, .int .i64 a0_14]) (t := 76) ?hr ?_; (case hd => rfl); (case hg => rfl); (case hr => first | (go_simp; done) | (go_simp; rfl)); intro gb177 hg w24 hbox hb; have n0_ := Aside0.mk (below_step (by repeat (first | (with_reducible first | exact HB.out | apply below_alloc | apply pw_below_drewN | apply below_drew1) | exact HB.out)) hb); have n1_ := Aside0.mk (hbox); have n2_ := Aside0.mk ((by rw [hg]; exact (below_size (by repeat (first | (with_reducible first | exact HB.out | apply below_alloc | apply pw_below_drewN | apply below_drew1) | exact HB.out))) : w.heap.size ≤ gb177)); have n3_ := Aside0.mk ((by rw [hg]; exact (below_size (by repeat (first | (with_reducible first | exact HB.out | apply below_alloc | apply pw_below_drewN | apply below_drew1) | exact HB.out))) : w.heap.size ≤ gb177)); clear HB; have HB := n0_; have BK177 := n1_; have GW177 := n2_; have GE177 := n3_; clear n0_ n1_ n2_ n3_; clear hb hbox hg; have hcz25_0 : w24.cell? ⟨gb177, 0, none⟩ = some (.string a0_0) := (blk_cell BK177.out 0).trans rfl; have hcz25_1 : w24.cell? ⟨gb177, 1, none⟩ = some (.int .i64 a0_1) := (blk_cell BK177.out 1).trans rfl; have hcz25_2 : w24.cell? ⟨gb177, 2, none⟩ = some (.int .i64 a0_2) := (blk_cell BK177.out 2).trans rfl; have hcz25_3 : w24.cell? ⟨gb177, 3, none⟩ = some (.string a0_3) := (blk_cell BK177.out 3).trans rfl; have hcz25_4 : w24.cell? ⟨gb177, 4, none⟩ = some (.string a0_4) := (blk_cell BK177.out 4).trans rfl; have hcz25_5 : w24.cell? ⟨gb177, 5, none⟩ = some (.int .i64 a0_5) := (blk_cell BK177.out 5).trans rfl; have hcz25_6 : w24.cell? ⟨gb177, 6, none⟩ = some (.int .i64 a0_6) := (blk_cell BK177.out 6).trans rfl; have hcz25_7 : w24.cell? ⟨gb177, 7, none⟩ = some (.int .i64 a0_7) := (blk_cell BK177.out 7).trans rfl; have hcz25_8 : w24.cell? ⟨gb177, 8, none⟩ = some (.int .i64 a0_8) := (blk_cell BK177.out 8).trans rfl; have hcz25_9 : w24.cell? ⟨gb177, 9, none⟩ = some (.int .i64 a0_9) := (blk_cell BK177.out 9).trans rfl; have hcz25_10 : w24.cell? ⟨gb177, 10, none⟩ = some (.slice A0_10 l0_10.length c0_10) := (blk_cell BK177.out 10).trans rfl; have hcz25_11 : w24.cell? ⟨gb177, 11, none⟩ = some (.slice A0_11 l0_11.length c0_11) := (blk_cell BK177.out 11).trans rfl; have hcz25_12 : w24.cell? ⟨gb177, 12, none⟩ = some (.bool a0_12) := (blk_cell BK177.out 12).trans rfl; have hcz25_13 : w24.cell? ⟨gb177, 13, none⟩ = some (.int .i64 a0_13) := (blk_cell BK177.out 13).trans rfl; have hcz25_14 : w24.cell? ⟨gb177, 14, none⟩ = some (.int .i64 a0_14) := (blk_cell BK177.out 14).trans rfl; have hfz25_0 := blk_frozen BK177.out 0; have hfz25_1 := blk_frozen BK177.out 1; have hfz25_2 := blk_frozen BK177.out 2; have hfz25_3 := blk_frozen BK177.out 3; have hfz25_4 := blk_frozen BK177.out 4; have hfz25_5 := blk_frozen BK177.out 5; have hfz25_6 := blk_frozen BK177.out 6; have hfz25_7 := blk_frozen BK177.out 7; have hfz25_8 := blk_frozen BK177.out 8; have hfz25_9 := blk_frozen BK177.out 9; have hfz25_10 := blk_frozen BK177.out 10; have hfz25_11 := blk_frozen BK177.out 11; have hfz25_12 := blk_frozen BK177.out 12; have hfz25_13 := blk_frozen BK177.out 13; have hfz25_14 := blk_frozen BK177.out 14) | ((with_reducible refine gate_callee (f := 112) rfl ?_); refine goesL_ (some 5) rfl rfl Try.func112 (by kernel_rfl) rfl #[.string a0_0] rfl (by (try simp only [List.map_toArray, List.map_cons, List.map_nil]); first | done | rfl | (simp only [List.length_drop, List.length_take]; rfl)) ?_; (with_reducible refine (triremeref01_Word.calls k a0_0 true _ A2.out).mono ?_); rintro e w' ⟨rfl, ⟨nd, rfl⟩⟩; refine ⟨_, rfl, ?_⟩) | (go_at_call 125; (with_reducible refine (triremeref07_in.calls a0_2 1 200 true _ A4.out).mono ?_); rintro e w' ⟨rfl, ⟨nd, rfl⟩⟩) | (go_at_call 125; (with_reducible refine (triremeref07_in.calls a0_1 0 a0_2 true _ A6.out).mono ?_); rintro e w' ⟨rfl, ⟨nd, rfl⟩⟩) | (go_at_call 125; (with_reducible refine (triremeref07_in.calls a0_13 0 1125899906842624 true _ A8.out).mono ?_); rintro e w' ⟨rfl, ⟨nd, rfl⟩⟩) | (go_at_call 125; (with_reducible refine (triremeref07_in.calls a0_14 0 1000 true _ A10.out).mono ?_); rintro e w' ⟨rfl, ⟨nd, rfl⟩⟩) | (go_at_call 126; (with_reducible refine (triremeref07_RightMachine.calls k a0_3 a0_4 a0_5 a0_6 a0_7 a0_8 a0_9 _ _ l0_10 _ _ l0_11 a0_12 true _ ?side1 ?side2 ?side3 ?side4 A12.out).mono ?_); (case side1 => repeat (first | exact (Kd.C_below HR0_10.out (by repeat (first | (with_reducible first | exact HB.out | apply below_alloc | apply pw_below_drewN | apply below_drew1 | refine below_set ?_ GE177.out) | exact HB.out))) | (with_reducible refine Kd.C_alloc ?_ _) | (with_reducible refine Kd.C_drewN ?_ _) | (with_reducible refine Kd.C_drew ?_))); (case side2 => exact HC0_10.out); (case side3 => repeat (first | exact (Kd.C_below HR0_11.out (by repeat (first | (with_reducible first | exact HB.out | apply below_alloc | apply pw_below_drewN | apply below_drew1 | refine below_set ?_ GE177.out) | exact HB.out))) | (with_reducible refine Kd.C_alloc ?_ _) | (with_reducible refine Kd.C_drewN ?_ _) | (with_reducible refine Kd.C_drew ?_))); (case side4 => exact HC0_11.out); rintro e w26 ⟨rfl, hb⟩; have n0_ := Aside0.mk (blk_below (g := gb177) (o := .cells #[.string a0_0, .int .i64 a0_1, .int .i64 a0_2, .string a0_3, .string a0_4, .int .i64 a0_5, .int .i64 a0_6, .int .i64 a0_7, .int .i64 a0_8, .int .i64 a0_9, .slice A0_10 l0_10.length c0_10, .slice A0_11 l0_11.length c0_11, .bool a0_12, .int .i64 a0_13, .int .i64 a0_14] 76 (0, 0)) (by (with_reducible repeat (first | refine blk_drewN ?_ _ | refine blk_drew ?_ | refine blk_alloc ?_ _)); exact BK177.out) hb); have n1_ := Aside0.mk (below_step (by repeat (first | (with_reducible first | exact HB.out | apply below_alloc | apply pw_below_drewN | apply below_drew1 | refine below_set ?_ GE177.out) | exact HB.out)) hb); clear BK177; clear HB; have BK177 := n0_; have HB := n1_; clear n0_ n1_; (try clear hb); (try clear hb2); (try clear hk); (try clear hi); have hcz27_0 : w26.cell? ⟨gb177, 0, none⟩ = some (.string a0_0) := (blk_cell BK177.out 0).trans rfl; have hcz27_1 : w26.cell? ⟨gb177, 1, none⟩ = some (.int .i64 a0_1) := (blk_cell BK177.out 1).trans rfl; have hcz27_2 : w26.cell? ⟨gb177, 2, none⟩ = some (.int .i64 a0_2) := (blk_cell BK177.out 2).trans rfl; have hcz27_3 : w26.cell? ⟨gb177, 3, none⟩ = some (.string a0_3) := (blk_cell BK177.out 3).trans rfl; have hcz27_4 : w26.cell? ⟨gb177, 4, none⟩ = some (.string a0_4) := (blk_cell BK177.out 4).trans rfl; have hcz27_5 : w26.cell? ⟨gb177, 5, none⟩ = some (.int .i64 a0_5) := (blk_cell BK177.out 5).trans rfl; have hcz27_6 : w26.cell? ⟨gb177, 6, none⟩ = some (.int .i64 a0_6) := (blk_cell BK177.out 6).trans rfl; have hcz27_7 : w26.cell? ⟨gb177, 7, none⟩ = some (.int .i64 a0_7) := (blk_cell BK177.out 7).trans rfl; have hcz27_8 : w26.cell? ⟨gb177, 8, none⟩ = some (.int .i64 a0_8) := (blk_cell BK177.out 8).trans rfl; have hcz27_9 : w26.cell? ⟨gb177, 9, none⟩ = some (.int .i64 a0_9) := (blk_cell BK177.out 9).trans rfl; have hcz27_10 : w26.cell? ⟨gb177, 10, none⟩ = some (.slice A0_10 l0_10.length c0_10) := (blk_cell BK177.out 10).trans rfl; have hcz27_11 : w26.cell? ⟨gb177, 11, none⟩ = some (.slice A0_11 l0_11.length c0_11) := (blk_cell BK177.out 11).trans rfl; have hcz27_12 : w26.cell? ⟨gb177, 12, none⟩ = some (.bool a0_12) := (blk_cell BK177.out 12).trans rfl; have hcz27_13 : w26.cell? ⟨gb177, 13, none⟩ = some (.int .i64 a0_13) := (blk_cell BK177.out 13).trans rfl; have hcz27_14 : w26.cell? ⟨gb177, 14, none⟩ = some (.int .i64 a0_14) := (blk_cell BK177.out 14).trans rfl; have hfz27_0 := blk_frozen BK177.out 0; have hfz27_1 := blk_frozen BK177.out 1; have hfz27_2 := blk_frozen BK177.out 2; have hfz27_3 := blk_frozen BK177.out 3; have hfz27_4 := blk_frozen BK177.out 4; have hfz27_5 := blk_frozen BK177.out 5; have hfz27_6 := blk_frozen BK177.out 6; have hfz27_7 := blk_frozen BK177.out 7; have hfz27_8 := blk_frozen BK177.out 8; have hfz27_9 := blk_frozen BK177.out 9; have hfz27_10 := blk_frozen BK177.out 10; have hfz27_11 := blk_frozen BK177.out 11; have hfz27_12 := blk_frozen BK177.out 12; have hfz27_13 := blk_frozen BK177.out 13; have hfz27_14 := blk_frozen BK177.out 14))
                go_ret
                exact ⟨by first | rfl | (simp [errW_none, errW_some] <;> rfl) | (simp [*, errW_none, errW_some] <;> rfl), by repeat (first | (with_reducible first | exact HB.out | apply below_alloc | apply pw_below_drewN | apply below_drew1 | refine below_set ?_ GE177.out) | exact HB.out)⟩
            · replace c13 := Bool.eq_false_iff.mpr c13
              subst c13
              have H1 : (some false) = some r := by rw [if_neg (show ¬ (false = true) by decide)] at H; exact H
              clear H
              have H := H1
              clear H1
              obtain rfl := Option.some.inj H
              go_enter Try.func103, Try.ntmps103
              go_wp2_with (first | ((with_reducible refine gate_dst (N := 1) rfl ?_); refine box_event ?hg (N := 1) ?hd (cs := #[.string a0_0, .int .i64 a0_1, .int .i64 a0_2, .string a0_3, .string a0_4, .int .i64 a0_5, .int .i64 a0_6, .int .i64 a0_7, .int .i64 a0_8, .int .i64 a0_9, .slice A0_10 l0_10.length c0_10, .slice A0_11 l0_11.length c0_11, .bool a0_12, .int .i64 a0_13, .int .i64 a0_14]) (t := 76) ?hr ?_; (case hd => rfl); (case hg => rfl); (case hr => first | (go_simp; done) | (go_simp; rfl)); intro gb177 hg w28 hbox hb; have n0_ := Aside0.mk (below_step (by repeat (first | (with_reducible first | exact HB.out | apply below_alloc | apply pw_below_drewN | apply below_drew1) | exact HB.out)) hb); have n1_ := Aside0.mk (hbox); have n2_ := Aside0.mk ((by rw [hg]; exact (below_size (by repeat (first | (with_reducible first | exact HB.out | apply below_alloc | apply pw_below_drewN | apply below_drew1) | exact HB.out))) : w.heap.size ≤ gb177)); have n3_ := Aside0.mk ((by rw [hg]; exact (below_size (by repeat (first | (with_reducible first | exact HB.out | apply below_alloc | apply pw_below_drewN | apply below_drew1) | exact HB.out))) : w.heap.size ≤ gb177)); clear HB; have HB := n0_; have BK177 := n1_; have GW177 := n2_; have GE177 := n3_; clear n0_ n1_ n2_ n3_; clear hb hbox hg; have hcz29_0 : w28.cell? ⟨gb177, 0, none⟩ = some (.string a0_0) := (blk_cell BK177.out 0).trans rfl; have hcz29_1 : w28.cell? ⟨gb177, 1, none⟩ = some (.int .i64 a0_1) := (blk_cell BK177.out 1).trans rfl; have hcz29_2 : w28.cell? ⟨gb177, 2, none⟩ = some (.int .i64 a0_2) := (blk_cell BK177.out 2).trans rfl; have hcz29_3 : w28.cell? ⟨gb177, 3, none⟩ = some (.string a0_3) := (blk_cell BK177.out 3).trans rfl; have hcz29_4 : w28.cell? ⟨gb177, 4, none⟩ = some (.string a0_4) := (blk_cell BK177.out 4).trans rfl; have hcz29_5 : w28.cell? ⟨gb177, 5, none⟩ = some (.int .i64 a0_5) := (blk_cell BK177.out 5).trans rfl; have hcz29_6 : w28.cell? ⟨gb177, 6, none⟩ = some (.int .i64 a0_6) := (blk_cell BK177.out 6).trans rfl; have hcz29_7 : w28.cell? ⟨gb177, 7, none⟩ = some (.int .i64 a0_7) := (blk_cell BK177.out 7).trans rfl; have hcz29_8 : w28.cell? ⟨gb177, 8, none⟩ = some (.int .i64 a0_8) := (blk_cell BK177.out 8).trans rfl; have hcz29_9 : w28.cell? ⟨gb177, 9, none⟩ = some (.int .i64 a0_9) := (blk_cell BK177.out 9).trans rfl; have hcz29_10 : w28.cell? ⟨gb177, 10, none⟩ = some (.slice A0_10 l0_10.length c0_10) := (blk_cell BK177.out 10).trans rfl; have hcz29_11 : w28.cell? ⟨gb177, 11, none⟩ = some (.slice A0_11 l0_11.length c0_11) := (blk_cell BK177.out 11).trans rfl; have hcz29_12 : w28.cell? ⟨gb177, 12, none⟩ = some (.bool a0_12) := (blk_cell BK177.out 12).trans rfl; have hcz29_13 : w28.cell? ⟨gb177, 13, none⟩ = some (.int .i64 a0_13) := (blk_cell BK177.out 13).trans rfl; have hcz29_14 : w28.cell? ⟨gb177, 14, none⟩ = some (.int .i64 a0_14) := (blk_cell BK177.out 14).trans rfl; have hfz29_0 := blk_frozen BK177.out 0; have hfz29_1 := blk_frozen BK177.out 1; have hfz29_2 := blk_frozen BK177.out 2; have hfz29_3 := blk_frozen BK177.out 3; have hfz29_4 := blk_frozen BK177.out 4; have hfz29_5 := blk_frozen BK177.out 5; have hfz29_6 := blk_frozen BK177.out 6; have hfz29_7 := blk_frozen BK177.out 7; have hfz29_8 := blk_frozen BK177.out 8; have hfz29_9 := blk_frozen BK177.out 9; have hfz29_10 := blk_frozen BK177.out 10; have hfz29_11 := blk_frozen BK177.out 11; have hfz29_12 := blk_frozen BK177.out 12; have hfz29_13 := blk_frozen BK177.out 13; have hfz29_14 := blk_frozen BK177.out 14) | ((with_reducible refine gate_callee (f := 112) rfl ?_); refine goesL_ (some 5) rfl rfl Try.func112 (by kernel_rfl) rfl #[.string a0_0] rfl (by (try simp only [List.map_toArray, List.map_cons, List.map_nil]); first | done | rfl | (simp only [List.length_drop, List.length_take]; rfl)) ?_; (with_reducible refine (triremeref01_Word.calls k a0_0 true _ A2.out).mono ?_); rintro e w' ⟨rfl, ⟨nd, rfl⟩⟩; refine ⟨_, rfl, ?_⟩) | (go_at_call 125; (with_reducible refine (triremeref07_in.calls a0_2 1 200 true _ A4.out).mono ?_); rintro e w' ⟨rfl, ⟨nd, rfl⟩⟩) | (go_at_call 125; (with_reducible refine (triremeref07_in.calls a0_1 0 a0_2 true _ A6.out).mono ?_); rintro e w' ⟨rfl, ⟨nd, rfl⟩⟩) | (go_at_call 125; (with_reducible refine (triremeref07_in.calls a0_13 0 1125899906842624 true _ A8.out).mono ?_); rintro e w' ⟨rfl, ⟨nd, rfl⟩⟩) | (go_at_call 125; (with_reducible refine (triremeref07_in.calls a0_14 0 1000 true _ A10.out).mono ?_); rintro e w' ⟨rfl, ⟨nd, rfl⟩⟩) | (go_at_call 126; (with_reducible refine (triremeref07_RightMachine.calls k a0_3 a0_4 a0_5 a0_6 a0_7 a0_8 a0_9 _ _ l0_10 _ _ l0_11 a0_12 false _ ?side1 ?side2 ?side3 ?side4 A12.out).mono ?_); (case side1 => repeat (first | exact (Kd.C_below HR0_10.out (by repeat (first | (with_reducible first | exact HB.out | apply below_alloc | apply pw_below_drewN | apply below_drew1 | refine below_set ?_ GE177.out) | exact HB.out))) | (with_reducible refine Kd.C_alloc ?_ _) | (with_reducible refine Kd.C_drewN ?_ _) | (with_reducible refine Kd.C_drew ?_))); (case side2 => exact HC0_10.out); (case side3 => repeat (first | exact (Kd.C_below HR0_11.out (by repeat (first | (with_reducible first | exact HB.out | apply below_alloc | apply pw_below_drewN | apply below_drew1 | refine below_set ?_ GE177.out) | exact HB.out))) | (with_reducible refine Kd.C_alloc ?_ _) | (with_reducible refine Kd.C_drewN ?_ _) | (with_reducible refine Kd.C_drew ?_))); (case side4 => exact HC0_11.out); rintro e w30 ⟨rfl, hb⟩; have n0_ := Aside0.mk (blk_below (g := gb177) (o := .cells #[.string a0_0, .int .i64 a0_1, .int .i64 a0_2, .string a0_3, .string a0_4, .int .i64 a0_5, .int .i64 a0_6, .int .i64 a0_7, .int .i64 a0_8, .int .i64 a0_9, .slice A0_10 l0_10.length c0_10, .slice A0_11 l0_11.length c0_11, .bool a0_12, .int .i64 a0_13, .int .i64 a0_14] 76 (0, 0)) (by (with_reducible repeat (first | refine blk_drewN ?_ _ | refine blk_drew ?_ | refine blk_alloc ?_ _)); exact BK177.out) hb); have n1_ := Aside0.mk (below_step (by repeat (first | (with_reducible first | exact HB.out | apply below_alloc | apply pw_below_drewN | apply below_drew1 | refine below_set ?_ GE177.out) | exact HB.out)) hb); clear BK177; clear HB; have BK177 := n0_; have HB := n1_; clear n0_ n1_; (try clear hb); (try clear hb2); (try clear hk); (try clear hi)))
              go_ret
              exact ⟨by first | rfl | (simp [errW_none, errW_some] <;> rfl) | (simp [*, errW_none, errW_some] <;> rfl), by repeat (first | (with_reducible first | exact HB.out | apply below_alloc | apply pw_below_drewN | apply below_drew1 | refine below_set ?_ GE177.out) | exact HB.out)⟩
          · replace c11 := Bool.eq_false_iff.mpr c11
            subst c11
            have H1 : (some false) = some r := by rw [if_neg (show ¬ (false = true) by decide)] at H; exact H
            clear H
            have H := H1
            clear H1
            obtain rfl := Option.some.inj H
            go_enter Try.func103, Try.ntmps103
            go_wp2_with (first | ((with_reducible refine gate_dst (N := 1) rfl ?_); refine box_event ?hg (N := 1) ?hd (cs := #[.string a0_0, .int .i64 a0_1, .int .i64 a0_2, .string a0_3, .string a0_4, .int .i64 a0_5, .int .i64 a0_6, .int .i64 a0_7, .int .i64 a0_8, .int .i64 a0_9, .slice A0_10 l0_10.length c0_10, .slice A0_11 l0_11.length c0_11, .bool a0_12, .int .i64 a0_13, .int .i64 a0_14]) (t := 76) ?hr ?_; (case hd => rfl); (case hg => rfl); (case hr => first | (go_simp; done) | (go_simp; rfl)); intro gb177 hg w31 hbox hb; have n0_ := Aside0.mk (below_step (by repeat (first | (with_reducible first | exact HB.out | apply below_alloc | apply pw_below_drewN | apply below_drew1) | exact HB.out)) hb); have n1_ := Aside0.mk (hbox); have n2_ := Aside0.mk ((by rw [hg]; exact (below_size (by repeat (first | (with_reducible first | exact HB.out | apply below_alloc | apply pw_below_drewN | apply below_drew1) | exact HB.out))) : w.heap.size ≤ gb177)); have n3_ := Aside0.mk ((by rw [hg]; exact (below_size (by repeat (first | (with_reducible first | exact HB.out | apply below_alloc | apply pw_below_drewN | apply below_drew1) | exact HB.out))) : w.heap.size ≤ gb177)); clear HB; have HB := n0_; have BK177 := n1_; have GW177 := n2_; have GE177 := n3_; clear n0_ n1_ n2_ n3_; clear hb hbox hg; have hcz32_0 : w31.cell? ⟨gb177, 0, none⟩ = some (.string a0_0) := (blk_cell BK177.out 0).trans rfl; have hcz32_1 : w31.cell? ⟨gb177, 1, none⟩ = some (.int .i64 a0_1) := (blk_cell BK177.out 1).trans rfl; have hcz32_2 : w31.cell? ⟨gb177, 2, none⟩ = some (.int .i64 a0_2) := (blk_cell BK177.out 2).trans rfl; have hcz32_3 : w31.cell? ⟨gb177, 3, none⟩ = some (.string a0_3) := (blk_cell BK177.out 3).trans rfl; have hcz32_4 : w31.cell? ⟨gb177, 4, none⟩ = some (.string a0_4) := (blk_cell BK177.out 4).trans rfl; have hcz32_5 : w31.cell? ⟨gb177, 5, none⟩ = some (.int .i64 a0_5) := (blk_cell BK177.out 5).trans rfl; have hcz32_6 : w31.cell? ⟨gb177, 6, none⟩ = some (.int .i64 a0_6) := (blk_cell BK177.out 6).trans rfl; have hcz32_7 : w31.cell? ⟨gb177, 7, none⟩ = some (.int .i64 a0_7) := (blk_cell BK177.out 7).trans rfl; have hcz32_8 : w31.cell? ⟨gb177, 8, none⟩ = some (.int .i64 a0_8) := (blk_cell BK177.out 8).trans rfl; have hcz32_9 : w31.cell? ⟨gb177, 9, none⟩ = some (.int .i64 a0_9) := (blk_cell BK177.out 9).trans rfl; have hcz32_10 : w31.cell? ⟨gb177, 10, none⟩ = some (.slice A0_10 l0_10.length c0_10) := (blk_cell BK177.out 10).trans rfl; have hcz32_11 : w31.cell? ⟨gb177, 11, none⟩ = some (.slice A0_11 l0_11.length c0_11) := (blk_cell BK177.out 11).trans rfl; have hcz32_12 : w31.cell? ⟨gb177, 12, none⟩ = some (.bool a0_12) := (blk_cell BK177.out 12).trans rfl; have hcz32_13 : w31.cell? ⟨gb177, 13, none⟩ = some (.int .i64 a0_13) := (blk_cell BK177.out 13).trans rfl; have hcz32_14 : w31.cell? ⟨gb177, 14, none⟩ = some (.int .i64 a0_14) := (blk_cell BK177.out 14).trans rfl; have hfz32_0 := blk_frozen BK177.out 0; have hfz32_1 := blk_frozen BK177.out 1; have hfz32_2 := blk_frozen BK177.out 2; have hfz32_3 := blk_frozen BK177.out 3; have hfz32_4 := blk_frozen BK177.out 4; have hfz32_5 := blk_frozen BK177.out 5; have hfz32_6 := blk_frozen BK177.out 6; have hfz32_7 := blk_frozen BK177.out 7; have hfz32_8 := blk_frozen BK177.out 8; have hfz32_9 := blk_frozen BK177.out 9; have hfz32_10 := blk_frozen BK177.out 10; have hfz32_11 := blk_frozen BK177.out 11; have hfz32_12 := blk_frozen BK177.out 12; have hfz32_13 := blk_frozen BK177.out 13; have hfz32_14 := blk_frozen BK177.out 14) | ((with_reducible refine gate_callee (f := 112) rfl ?_); refine goesL_ (some 5) rfl rfl Try.func112 (by kernel_rfl) rfl #[.string a0_0] rfl (by (try simp only [List.map_toArray, List.map_cons, List.map_nil]); first | done | rfl | (simp only [List.length_drop, List.length_take]; rfl)) ?_; (with_reducible refine (triremeref01_Word.calls k a0_0 true _ A2.out).mono ?_); rintro e w' ⟨rfl, ⟨nd, rfl⟩⟩; refine ⟨_, rfl, ?_⟩) | (go_at_call 125; (with_reducible refine (triremeref07_in.calls a0_2 1 200 true _ A4.out).mono ?_); rintro e w' ⟨rfl, ⟨nd, rfl⟩⟩) | (go_at_call 125; (with_reducible refine (triremeref07_in.calls a0_1 0 a0_2 true _ A6.out).mono ?_); rintro e w' ⟨rfl, ⟨nd, rfl⟩⟩) | (go_at_call 125; (with_reducible refine (triremeref07_in.calls a0_13 0 1125899906842624 true _ A8.out).mono ?_); rintro e w' ⟨rfl, ⟨nd, rfl⟩⟩) | (go_at_call 125; (with_reducible refine (triremeref07_in.calls a0_14 0 1000 false _ A10.out).mono ?_); rintro e w' ⟨rfl, ⟨nd, rfl⟩⟩))
            go_ret
            exact ⟨by first | rfl | (simp [errW_none, errW_some] <;> rfl) | (simp [*, errW_none, errW_some] <;> rfl), by repeat (first | (with_reducible first | exact HB.out | apply below_alloc | apply pw_below_drewN | apply below_drew1 | refine below_set ?_ GE177.out) | exact HB.out)⟩
        · replace c9 := Bool.eq_false_iff.mpr c9
          subst c9
          have H1 : (some false) = some r := by rw [if_neg (show ¬ (false = true) by decide)] at H; exact H
          clear H
          have H := H1
          clear H1
          obtain rfl := Option.some.inj H
          go_enter Try.func103, Try.ntmps103
          go_wp2_with (first | ((with_reducible refine gate_dst (N := 1) rfl ?_); refine box_event ?hg (N := 1) ?hd (cs := #[.string a0_0, .int .i64 a0_1, .int .i64 a0_2, .string a0_3, .string a0_4, .int .i64 a0_5, .int .i64 a0_6, .int .i64 a0_7, .int .i64 a0_8, .int .i64 a0_9, .slice A0_10 l0_10.length c0_10, .slice A0_11 l0_11.length c0_11, .bool a0_12, .int .i64 a0_13, .int .i64 a0_14]) (t := 76) ?hr ?_; (case hd => rfl); (case hg => rfl); (case hr => first | (go_simp; done) | (go_simp; rfl)); intro gb177 hg w33 hbox hb; have n0_ := Aside0.mk (below_step (by repeat (first | (with_reducible first | exact HB.out | apply below_alloc | apply pw_below_drewN | apply below_drew1) | exact HB.out)) hb); have n1_ := Aside0.mk (hbox); have n2_ := Aside0.mk ((by rw [hg]; exact (below_size (by repeat (first | (with_reducible first | exact HB.out | apply below_alloc | apply pw_below_drewN | apply below_drew1) | exact HB.out))) : w.heap.size ≤ gb177)); have n3_ := Aside0.mk ((by rw [hg]; exact (below_size (by repeat (first | (with_reducible first | exact HB.out | apply below_alloc | apply pw_below_drewN | apply below_drew1) | exact HB.out))) : w.heap.size ≤ gb177)); clear HB; have HB := n0_; have BK177 := n1_; have GW177 := n2_; have GE177 := n3_; clear n0_ n1_ n2_ n3_; clear hb hbox hg; have hcz34_0 : w33.cell? ⟨gb177, 0, none⟩ = some (.string a0_0) := (blk_cell BK177.out 0).trans rfl; have hcz34_1 : w33.cell? ⟨gb177, 1, none⟩ = some (.int .i64 a0_1) := (blk_cell BK177.out 1).trans rfl; have hcz34_2 : w33.cell? ⟨gb177, 2, none⟩ = some (.int .i64 a0_2) := (blk_cell BK177.out 2).trans rfl; have hcz34_3 : w33.cell? ⟨gb177, 3, none⟩ = some (.string a0_3) := (blk_cell BK177.out 3).trans rfl; have hcz34_4 : w33.cell? ⟨gb177, 4, none⟩ = some (.string a0_4) := (blk_cell BK177.out 4).trans rfl; have hcz34_5 : w33.cell? ⟨gb177, 5, none⟩ = some (.int .i64 a0_5) := (blk_cell BK177.out 5).trans rfl; have hcz34_6 : w33.cell? ⟨gb177, 6, none⟩ = some (.int .i64 a0_6) := (blk_cell BK177.out 6).trans rfl; have hcz34_7 : w33.cell? ⟨gb177, 7, none⟩ = some (.int .i64 a0_7) := (blk_cell BK177.out 7).trans rfl; have hcz34_8 : w33.cell? ⟨gb177, 8, none⟩ = some (.int .i64 a0_8) := (blk_cell BK177.out 8).trans rfl; have hcz34_9 : w33.cell? ⟨gb177, 9, none⟩ = some (.int .i64 a0_9) := (blk_cell BK177.out 9).trans rfl; have hcz34_10 : w33.cell? ⟨gb177, 10, none⟩ = some (.slice A0_10 l0_10.length c0_10) := (blk_cell BK177.out 10).trans rfl; have hcz34_11 : w33.cell? ⟨gb177, 11, none⟩ = some (.slice A0_11 l0_11.length c0_11) := (blk_cell BK177.out 11).trans rfl; have hcz34_12 : w33.cell? ⟨gb177, 12, none⟩ = some (.bool a0_12) := (blk_cell BK177.out 12).trans rfl; have hcz34_13 : w33.cell? ⟨gb177, 13, none⟩ = some (.int .i64 a0_13) := (blk_cell BK177.out 13).trans rfl; have hcz34_14 : w33.cell? ⟨gb177, 14, none⟩ = some (.int .i64 a0_14) := (blk_cell BK177.out 14).trans rfl; have hfz34_0 := blk_frozen BK177.out 0; have hfz34_1 := blk_frozen BK177.out 1; have hfz34_2 := blk_frozen BK177.out 2; have hfz34_3 := blk_frozen BK177.out 3; have hfz34_4 := blk_frozen BK177.out 4; have hfz34_5 := blk_frozen BK177.out 5; have hfz34_6 := blk_frozen BK177.out 6; have hfz34_7 := blk_frozen BK177.out 7; have hfz34_8 := blk_frozen BK177.out 8; have hfz34_9 := blk_frozen BK177.out 9; have hfz34_10 := blk_frozen BK177.out 10; have hfz34_11 := blk_frozen BK177.out 11; have hfz34_12 := blk_frozen BK177.out 12; have hfz34_13 := blk_frozen BK177.out 13; have hfz34_14 := blk_frozen BK177.out 14) | ((with_reducible refine gate_callee (f := 112) rfl ?_); refine goesL_ (some 5) rfl rfl Try.func112 (by kernel_rfl) rfl #[.string a0_0] rfl (by (try simp only [List.map_toArray, List.map_cons, List.map_nil]); first | done | rfl | (simp only [List.length_drop, List.length_take]; rfl)) ?_; (with_reducible refine (triremeref01_Word.calls k a0_0 true _ A2.out).mono ?_); rintro e w' ⟨rfl, ⟨nd, rfl⟩⟩; refine ⟨_, rfl, ?_⟩) | (go_at_call 125; (with_reducible refine (triremeref07_in.calls a0_2 1 200 true _ A4.out).mono ?_); rintro e w' ⟨rfl, ⟨nd, rfl⟩⟩) | (go_at_call 125; (with_reducible refine (triremeref07_in.calls a0_1 0 a0_2 true _ A6.out).mono ?_); rintro e w' ⟨rfl, ⟨nd, rfl⟩⟩) | (go_at_call 125; (with_reducible refine (triremeref07_in.calls a0_13 0 1125899906842624 false _ A8.out).mono ?_); rintro e w' ⟨rfl, ⟨nd, rfl⟩⟩))
          go_ret
          exact ⟨by first | rfl | (simp [errW_none, errW_some] <;> rfl) | (simp [*, errW_none, errW_some] <;> rfl), by repeat (first | (with_reducible first | exact HB.out | apply below_alloc | apply pw_below_drewN | apply below_drew1 | refine below_set ?_ GE177.out) | exact HB.out)⟩
      · replace c7 := Bool.eq_false_iff.mpr c7
        subst c7
        have H1 : (some false) = some r := by rw [if_neg (show ¬ (false = true) by decide)] at H; exact H
        clear H
        have H := H1
        clear H1
        obtain rfl := Option.some.inj H
        go_enter Try.func103, Try.ntmps103
        go_wp2_with (first | ((with_reducible refine gate_dst (N := 1) rfl ?_); refine box_event ?hg (N := 1) ?hd (cs := #[.string a0_0, .int .i64 a0_1, .int .i64 a0_2, .string a0_3, .string a0_4, .int .i64 a0_5, .int .i64 a0_6, .int .i64 a0_7, .int .i64 a0_8, .int .i64 a0_9, .slice A0_10 l0_10.length c0_10, .slice A0_11 l0_11.length c0_11, .bool a0_12, .int .i64 a0_13, .int .i64 a0_14]) (t := 76) ?hr ?_; (case hd => rfl); (case hg => rfl); (case hr => first | (go_simp; done) | (go_simp; rfl)); intro gb177 hg w35 hbox hb; have n0_ := Aside0.mk (below_step (by repeat (first | (with_reducible first | exact HB.out | apply below_alloc | apply pw_below_drewN | apply below_drew1) | exact HB.out)) hb); have n1_ := Aside0.mk (hbox); have n2_ := Aside0.mk ((by rw [hg]; exact (below_size (by repeat (first | (with_reducible first | exact HB.out | apply below_alloc | apply pw_below_drewN | apply below_drew1) | exact HB.out))) : w.heap.size ≤ gb177)); have n3_ := Aside0.mk ((by rw [hg]; exact (below_size (by repeat (first | (with_reducible first | exact HB.out | apply below_alloc | apply pw_below_drewN | apply below_drew1) | exact HB.out))) : w.heap.size ≤ gb177)); clear HB; have HB := n0_; have BK177 := n1_; have GW177 := n2_; have GE177 := n3_; clear n0_ n1_ n2_ n3_; clear hb hbox hg; have hcz36_0 : w35.cell? ⟨gb177, 0, none⟩ = some (.string a0_0) := (blk_cell BK177.out 0).trans rfl; have hcz36_1 : w35.cell? ⟨gb177, 1, none⟩ = some (.int .i64 a0_1) := (blk_cell BK177.out 1).trans rfl; have hcz36_2 : w35.cell? ⟨gb177, 2, none⟩ = some (.int .i64 a0_2) := (blk_cell BK177.out 2).trans rfl; have hcz36_3 : w35.cell? ⟨gb177, 3, none⟩ = some (.string a0_3) := (blk_cell BK177.out 3).trans rfl; have hcz36_4 : w35.cell? ⟨gb177, 4, none⟩ = some (.string a0_4) := (blk_cell BK177.out 4).trans rfl; have hcz36_5 : w35.cell? ⟨gb177, 5, none⟩ = some (.int .i64 a0_5) := (blk_cell BK177.out 5).trans rfl; have hcz36_6 : w35.cell? ⟨gb177, 6, none⟩ = some (.int .i64 a0_6) := (blk_cell BK177.out 6).trans rfl; have hcz36_7 : w35.cell? ⟨gb177, 7, none⟩ = some (.int .i64 a0_7) := (blk_cell BK177.out 7).trans rfl; have hcz36_8 : w35.cell? ⟨gb177, 8, none⟩ = some (.int .i64 a0_8) := (blk_cell BK177.out 8).trans rfl; have hcz36_9 : w35.cell? ⟨gb177, 9, none⟩ = some (.int .i64 a0_9) := (blk_cell BK177.out 9).trans rfl; have hcz36_10 : w35.cell? ⟨gb177, 10, none⟩ = some (.slice A0_10 l0_10.length c0_10) := (blk_cell BK177.out 10).trans rfl; have hcz36_11 : w35.cell? ⟨gb177, 11, none⟩ = some (.slice A0_11 l0_11.length c0_11) := (blk_cell BK177.out 11).trans rfl; have hcz36_12 : w35.cell? ⟨gb177, 12, none⟩ = some (.bool a0_12) := (blk_cell BK177.out 12).trans rfl; have hcz36_13 : w35.cell? ⟨gb177, 13, none⟩ = some (.int .i64 a0_13) := (blk_cell BK177.out 13).trans rfl; have hcz36_14 : w35.cell? ⟨gb177, 14, none⟩ = some (.int .i64 a0_14) := (blk_cell BK177.out 14).trans rfl; have hfz36_0 := blk_frozen BK177.out 0; have hfz36_1 := blk_frozen BK177.out 1; have hfz36_2 := blk_frozen BK177.out 2; have hfz36_3 := blk_frozen BK177.out 3; have hfz36_4 := blk_frozen BK177.out 4; have hfz36_5 := blk_frozen BK177.out 5; have hfz36_6 := blk_frozen BK177.out 6; have hfz36_7 := blk_frozen BK177.out 7; have hfz36_8 := blk_frozen BK177.out 8; have hfz36_9 := blk_frozen BK177.out 9; have hfz36_10 := blk_frozen BK177.out 10; have hfz36_11 := blk_frozen BK177.out 11; have hfz36_12 := blk_frozen BK177.out 12; have hfz36_13 := blk_frozen BK177.out 13; have hfz36_14 := blk_frozen BK177.out 14) | ((with_reducible refine gate_callee (f := 112) rfl ?_); refine goesL_ (some 5) rfl rfl Try.func112 (by kernel_rfl) rfl #[.string a0_0] rfl (by (try simp only [List.map_toArray, List.map_cons, List.map_nil]); first | done | rfl | (simp only [List.length_drop, List.length_take]; rfl)) ?_; (with_reducible refine (triremeref01_Word.calls k a0_0 true _ A2.out).mono ?_); rintro e w' ⟨rfl, ⟨nd, rfl⟩⟩; refine ⟨_, rfl, ?_⟩) | (go_at_call 125; (with_reducible refine (triremeref07_in.calls a0_2 1 200 true _ A4.out).mono ?_); rintro e w' ⟨rfl, ⟨nd, rfl⟩⟩) | (go_at_call 125; (with_reducible refine (triremeref07_in.calls a0_1 0 a0_2 false _ A6.out).mono ?_); rintro e w' ⟨rfl, ⟨nd, rfl⟩⟩))
        go_ret
        exact ⟨by first | rfl | (simp [errW_none, errW_some] <;> rfl) | (simp [*, errW_none, errW_some] <;> rfl), by repeat (first | (with_reducible first | exact HB.out | apply below_alloc | apply pw_below_drewN | apply below_drew1 | refine below_set ?_ GE177.out) | exact HB.out)⟩
    · replace c5 := Bool.eq_false_iff.mpr c5
      subst c5
      have H1 : (some false) = some r := by rw [if_neg (show ¬ (false = true) by decide)] at H; exact H
      clear H
      have H := H1
      clear H1
      obtain rfl := Option.some.inj H
      go_enter Try.func103, Try.ntmps103
      go_wp2_with (first | ((with_reducible refine gate_dst (N := 1) rfl ?_); refine box_event ?hg (N := 1) ?hd (cs := #[.string a0_0, .int .i64 a0_1, .int .i64 a0_2, .string a0_3, .string a0_4, .int .i64 a0_5, .int .i64 a0_6, .int .i64 a0_7, .int .i64 a0_8, .int .i64 a0_9, .slice A0_10 l0_10.length c0_10, .slice A0_11 l0_11.length c0_11, .bool a0_12, .int .i64 a0_13, .int .i64 a0_14]) (t := 76) ?hr ?_; (case hd => rfl); (case hg => rfl); (case hr => first | (go_simp; done) | (go_simp; rfl)); intro gb177 hg w37 hbox hb; have n0_ := Aside0.mk (below_step (by repeat (first | (with_reducible first | exact HB.out | apply below_alloc | apply pw_below_drewN | apply below_drew1) | exact HB.out)) hb); have n1_ := Aside0.mk (hbox); have n2_ := Aside0.mk ((by rw [hg]; exact (below_size (by repeat (first | (with_reducible first | exact HB.out | apply below_alloc | apply pw_below_drewN | apply below_drew1) | exact HB.out))) : w.heap.size ≤ gb177)); have n3_ := Aside0.mk ((by rw [hg]; exact (below_size (by repeat (first | (with_reducible first | exact HB.out | apply below_alloc | apply pw_below_drewN | apply below_drew1) | exact HB.out))) : w.heap.size ≤ gb177)); clear HB; have HB := n0_; have BK177 := n1_; have GW177 := n2_; have GE177 := n3_; clear n0_ n1_ n2_ n3_; clear hb hbox hg; have hcz38_0 : w37.cell? ⟨gb177, 0, none⟩ = some (.string a0_0) := (blk_cell BK177.out 0).trans rfl; have hcz38_1 : w37.cell? ⟨gb177, 1, none⟩ = some (.int .i64 a0_1) := (blk_cell BK177.out 1).trans rfl; have hcz38_2 : w37.cell? ⟨gb177, 2, none⟩ = some (.int .i64 a0_2) := (blk_cell BK177.out 2).trans rfl; have hcz38_3 : w37.cell? ⟨gb177, 3, none⟩ = some (.string a0_3) := (blk_cell BK177.out 3).trans rfl; have hcz38_4 : w37.cell? ⟨gb177, 4, none⟩ = some (.string a0_4) := (blk_cell BK177.out 4).trans rfl; have hcz38_5 : w37.cell? ⟨gb177, 5, none⟩ = some (.int .i64 a0_5) := (blk_cell BK177.out 5).trans rfl; have hcz38_6 : w37.cell? ⟨gb177, 6, none⟩ = some (.int .i64 a0_6) := (blk_cell BK177.out 6).trans rfl; have hcz38_7 : w37.cell? ⟨gb177, 7, none⟩ = some (.int .i64 a0_7) := (blk_cell BK177.out 7).trans rfl; have hcz38_8 : w37.cell? ⟨gb177, 8, none⟩ = some (.int .i64 a0_8) := (blk_cell BK177.out 8).trans rfl; have hcz38_9 : w37.cell? ⟨gb177, 9, none⟩ = some (.int .i64 a0_9) := (blk_cell BK177.out 9).trans rfl; have hcz38_10 : w37.cell? ⟨gb177, 10, none⟩ = some (.slice A0_10 l0_10.length c0_10) := (blk_cell BK177.out 10).trans rfl; have hcz38_11 : w37.cell? ⟨gb177, 11, none⟩ = some (.slice A0_11 l0_11.length c0_11) := (blk_cell BK177.out 11).trans rfl; have hcz38_12 : w37.cell? ⟨gb177, 12, none⟩ = some (.bool a0_12) := (blk_cell BK177.out 12).trans rfl; have hcz38_13 : w37.cell? ⟨gb177, 13, none⟩ = some (.int .i64 a0_13) := (blk_cell BK177.out 13).trans rfl; have hcz38_14 : w37.cell? ⟨gb177, 14, none⟩ = some (.int .i64 a0_14) := (blk_cell BK177.out 14).trans rfl; have hfz38_0 := blk_frozen BK177.out 0; have hfz38_1 := blk_frozen BK177.out 1; have hfz38_2 := blk_frozen BK177.out 2; have hfz38_3 := blk_frozen BK177.out 3; have hfz38_4 := blk_frozen BK177.out 4; have hfz38_5 := blk_frozen BK177.out 5; have hfz38_6 := blk_frozen BK177.out 6; have hfz38_7 := blk_frozen BK177.out 7; have hfz38_8 := blk_frozen BK177.out 8; have hfz38_9 := blk_frozen BK177.out 9; have hfz38_10 := blk_frozen BK177.out 10; have hfz38_11 := blk_frozen BK177.out 11; have hfz38_12 := blk_frozen BK177.out 12; have hfz38_13 := blk_frozen BK177.out 13; have hfz38_14 := blk_frozen BK177.out 14) | ((with_reducible refine gate_callee (f := 112) rfl ?_); refine goesL_ (some 5) rfl rfl Try.func112 (by kernel_rfl) rfl #[.string a0_0] rfl (by (try simp only [List.map_toArray, List.map_cons, List.map_nil]); first | done | rfl | (simp only [List.length_drop, List.length_take]; rfl)) ?_; (with_reducible refine (triremeref01_Word.calls k a0_0 true _ A2.out).mono ?_); rintro e w' ⟨rfl, ⟨nd, rfl⟩⟩; refine ⟨_, rfl, ?_⟩) | (go_at_call 125; (with_reducible refine (triremeref07_in.calls a0_2 1 200 false _ A4.out).mono ?_); rintro e w' ⟨rfl, ⟨nd, rfl⟩⟩))
      go_ret
      exact ⟨by first | rfl | (simp [errW_none, errW_some] <;> rfl) | (simp [*, errW_none, errW_some] <;> rfl), by repeat (first | (with_reducible first | exact HB.out | apply below_alloc | apply pw_below_drewN | apply below_drew1 | refine below_set ?_ GE177.out) | exact HB.out)⟩
  · replace c3 := Bool.eq_false_iff.mpr c3
    subst c3
    have H1 : (some false) = some r := by rw [if_neg (show ¬ (false = true) by decide)] at H; exact H
    clear H
    have H := H1
    clear H1
    obtain rfl := Option.some.inj H
    go_enter Try.func103, Try.ntmps103
    go_wp2_with (first | ((with_reducible refine gate_dst (N := 1) rfl ?_); refine box_event ?hg (N := 1) ?hd (cs := #[.string a0_0, .int .i64 a0_1, .int .i64 a0_2, .string a0_3, .string a0_4, .int .i64 a0_5, .int .i64 a0_6, .int .i64 a0_7, .int .i64 a0_8, .int .i64 a0_9, .slice A0_10 l0_10.length c0_10, .slice A0_11 l0_11.length c0_11, .bool a0_12, .int .i64 a0_13, .int .i64 a0_14]) (t := 76) ?hr ?_; (case hd => rfl); (case hg => rfl); (case hr => first | (go_simp; done) | (go_simp; rfl)); intro gb177 hg w39 hbox hb; have n0_ := Aside0.mk (below_step (by repeat (first | (with_reducible first | exact HB.out | apply below_alloc | apply pw_below_drewN | apply below_drew1) | exact HB.out)) hb); have n1_ := Aside0.mk (hbox); have n2_ := Aside0.mk ((by rw [hg]; exact (below_size (by repeat (first | (with_reducible first | exact HB.out | apply below_alloc | apply pw_below_drewN | apply below_drew1) | exact HB.out))) : w.heap.size ≤ gb177)); have n3_ := Aside0.mk ((by rw [hg]; exact (below_size (by repeat (first | (with_reducible first | exact HB.out | apply below_alloc | apply pw_below_drewN | apply below_drew1) | exact HB.out))) : w.heap.size ≤ gb177)); clear HB; have HB := n0_; have BK177 := n1_; have GW177 := n2_; have GE177 := n3_; clear n0_ n1_ n2_ n3_; clear hb hbox hg; have hcz40_0 : w39.cell? ⟨gb177, 0, none⟩ = some (.string a0_0) := (blk_cell BK177.out 0).trans rfl; have hcz40_1 : w39.cell? ⟨gb177, 1, none⟩ = some (.int .i64 a0_1) := (blk_cell BK177.out 1).trans rfl; have hcz40_2 : w39.cell? ⟨gb177, 2, none⟩ = some (.int .i64 a0_2) := (blk_cell BK177.out 2).trans rfl; have hcz40_3 : w39.cell? ⟨gb177, 3, none⟩ = some (.string a0_3) := (blk_cell BK177.out 3).trans rfl; have hcz40_4 : w39.cell? ⟨gb177, 4, none⟩ = some (.string a0_4) := (blk_cell BK177.out 4).trans rfl; have hcz40_5 : w39.cell? ⟨gb177, 5, none⟩ = some (.int .i64 a0_5) := (blk_cell BK177.out 5).trans rfl; have hcz40_6 : w39.cell? ⟨gb177, 6, none⟩ = some (.int .i64 a0_6) := (blk_cell BK177.out 6).trans rfl; have hcz40_7 : w39.cell? ⟨gb177, 7, none⟩ = some (.int .i64 a0_7) := (blk_cell BK177.out 7).trans rfl; have hcz40_8 : w39.cell? ⟨gb177, 8, none⟩ = some (.int .i64 a0_8) := (blk_cell BK177.out 8).trans rfl; have hcz40_9 : w39.cell? ⟨gb177, 9, none⟩ = some (.int .i64 a0_9) := (blk_cell BK177.out 9).trans rfl; have hcz40_10 : w39.cell? ⟨gb177, 10, none⟩ = some (.slice A0_10 l0_10.length c0_10) := (blk_cell BK177.out 10).trans rfl; have hcz40_11 : w39.cell? ⟨gb177, 11, none⟩ = some (.slice A0_11 l0_11.length c0_11) := (blk_cell BK177.out 11).trans rfl; have hcz40_12 : w39.cell? ⟨gb177, 12, none⟩ = some (.bool a0_12) := (blk_cell BK177.out 12).trans rfl; have hcz40_13 : w39.cell? ⟨gb177, 13, none⟩ = some (.int .i64 a0_13) := (blk_cell BK177.out 13).trans rfl; have hcz40_14 : w39.cell? ⟨gb177, 14, none⟩ = some (.int .i64 a0_14) := (blk_cell BK177.out 14).trans rfl; have hfz40_0 := blk_frozen BK177.out 0; have hfz40_1 := blk_frozen BK177.out 1; have hfz40_2 := blk_frozen BK177.out 2; have hfz40_3 := blk_frozen BK177.out 3; have hfz40_4 := blk_frozen BK177.out 4; have hfz40_5 := blk_frozen BK177.out 5; have hfz40_6 := blk_frozen BK177.out 6; have hfz40_7 := blk_frozen BK177.out 7; have hfz40_8 := blk_frozen BK177.out 8; have hfz40_9 := blk_frozen BK177.out 9; have hfz40_10 := blk_frozen BK177.out 10; have hfz40_11 := blk_frozen BK177.out 11; have hfz40_12 := blk_frozen BK177.out 12; have hfz40_13 := blk_frozen BK177.out 13; have hfz40_14 := blk_frozen BK177.out 14) | ((with_reducible refine gate_callee (f := 112) rfl ?_); refine goesL_ (some 5) rfl rfl Try.func112 (by kernel_rfl) rfl #[.string a0_0] rfl (by (try simp only [List.map_toArray, List.map_cons, List.map_nil]); first | done | rfl | (simp only [List.length_drop, List.length_take]; rfl)) ?_; (with_reducible refine (triremeref01_Word.calls k a0_0 false _ A2.out).mono ?_); rintro e w' ⟨rfl, ⟨nd, rfl⟩⟩; refine ⟨_, rfl, ?_⟩))
    go_ret
    exact ⟨by first | rfl | (simp [errW_none, errW_some] <;> rfl) | (simp [*, errW_none, errW_some] <;> rfl), by repeat (first | (with_reducible first | exact HB.out | apply below_alloc | apply pw_below_drewN | apply below_drew1 | refine below_set ?_ GE177.out) | exact HB.out)⟩

/-! ### triremeref16_Right: function 69 -/
def triremeref16_Right.l0 : Nat → List (S76) → Int → Option (Bool)
  | 0, _, _ => none
  | k + 1, x0, x3 => if x3 < (x0.length : Int) then (if 0 ≤ x3 then ((triremeref07_RightGroup.f k ((rd_T76 x0 x3).f0) ((rd_T76 x0 x3).f1) ((rd_T76 x0 x3).f2) ((rd_T76 x0 x3).f3.f0) ((rd_T76 x0 x3).f3.f1) ((rd_T76 x0 x3).f3.f2.f0) ((rd_T76 x0 x3).f3.f2.f1) ((rd_T76 x0 x3).f3.f2.f2) ((rd_T76 x0 x3).f3.f2.f3) ((rd_T76 x0 x3).f3.f2.f4) ((rd_T76 x0 x3).f3.f3) ((rd_T76 x0 x3).f3.f4) ((rd_T76 x0 x3).f3.f5) ((rd_T76 x0 x3).f4) ((rd_T76 x0 x3).f5)).bind fun t185 => (if t185 = true then (if (((rd_T76 x0 x3).f0).size : Int) > 48 then (some false) else ((triremeref16_Find.f k x0 ((rd_T76 x0 x3).f0)).bind fun t188 => (if t188 = x3 then (triremeref16_Right.l0 k x0 (wrap64 (x3 + 1))) else (some false)))) else (some false))) else (none)) else (some true)
def triremeref16_Right.f (k : Nat) (l0 : List (S76)) : Option (Bool) := if (l0.length : Int) > 16 then (some false) else (triremeref16_Right.l0 k l0 0)
theorem triremeref16_Right.mono_l : ∀ k, (∀ y0 y1, LeO (triremeref16_Right.l0 k y0 y1) (triremeref16_Right.l0 (k + 1) y0 y1))
  | 0 => fun _ _ r h => by simp [triremeref16_Right.l0] at h
  | k + 1 => by
    have ih0 := triremeref16_Right.mono_l k
    · intro y0 y1
      unfold triremeref16_Right.l0
      repeat' first
      | (with_reducible exact ih0 _ _)
      | (with_reducible exact triremeref07_RightGroup.mono _ _ _ _ _ _ _ _ _ _ _ _ _ _ _ _)
      | (with_reducible exact triremeref16_Find.mono _ _ _)
      | (with_reducible exact LeO.refl _)
      | (with_reducible exact LeO.none _)
      | (with_reducible refine LeO.ite ?_ ?_)
      | (with_reducible refine LeO.bind ?_ (fun _ => ?_))
      | exact ih0 _ _
      | exact triremeref07_RightGroup.mono _ _ _ _ _ _ _ _ _ _ _ _ _ _ _ _
      | exact triremeref16_Find.mono _ _ _
      | exact LeO.none _
      | refine LeO.ite ?_ ?_
      | refine LeO.bind ?_ (fun _ => ?_)
theorem triremeref16_Right.mono : ∀ a0 k, LeO (triremeref16_Right.f k a0) (triremeref16_Right.f (k + 1) a0) := by
  intro a0 k
  have ih0 := triremeref16_Right.mono_l k
  unfold triremeref16_Right.f
  repeat' first
      | (with_reducible exact ih0 _ _)
      | (with_reducible exact triremeref07_RightGroup.mono _ _ _ _ _ _ _ _ _ _ _ _ _ _ _ _)
      | (with_reducible exact triremeref16_Find.mono _ _ _)
      | (with_reducible exact LeO.refl _)
      | (with_reducible exact LeO.none _)
      | (with_reducible refine LeO.ite ?_ ?_)
      | (with_reducible refine LeO.bind ?_ (fun _ => ?_))
      | exact ih0 _ _
      | exact triremeref07_RightGroup.mono _ _ _ _ _ _ _ _ _ _ _ _ _ _ _ _
      | exact triremeref16_Find.mono _ _ _
      | exact LeO.none _
      | refine LeO.ite ?_ ?_
      | refine LeO.bind ?_ (fun _ => ?_)
set_option maxHeartbeats 8000000 in
set_option maxRecDepth 100000 in
theorem triremeref16_Right.calls (k : Nat) (A0 : Option Addr) (c0 : Nat) (l0 : List (S76)) (r : Bool) (w : World) (hr0 : Kd.C k76 w A0 l0.length l0) (hc0 : l0.length ≤ c0) (h : triremeref16_Right.f k l0 = some r) :
    Calls Try.prog 69 #[.slice A0 l0.length c0] w fun e w' => e = .returned (.bool r) ∧ Below w.heap.size w w' := by
  have hu76 := Try.underlying76
  have HR0 := Aside0.mk hr0
  have HC0 := Aside0.mk hc0
  clear hr0 hc0
  have HB := Aside0.mk (Below.refl w.heap.size w)
  have H : (if (l0.length : Int) > 16 then (some false) else (triremeref16_Right.l0 k l0 0)) = some r := h
  clear h
  by_cases c2 : (l0.length : Int) > 16
  · rw [if_pos c2] at H
    have c2b0 : decide (16 < (l0.length : Int)) = true := decide_eq_true c2
    have c2b1 : decide (16 < l0.length) = true := decide_eq_true (by omega)
    clear c2
    obtain rfl := Option.some.inj H
    go_enter Try.func69, Try.ntmps69
    go_wp2
    go_ret
    exact ⟨by first | rfl | (simp [errW_none, errW_some] <;> rfl) | (simp [*, errW_none, errW_some] <;> rfl), by repeat (first | (with_reducible first | exact HB.out | apply below_alloc | apply pw_below_drewN | apply below_drew1) | exact HB.out)⟩
  · rw [if_neg c2] at H
    have c2b0 : decide (16 < (l0.length : Int)) = false := decide_eq_false c2
    have c2b1 : decide (16 < l0.length) = false := decide_eq_false (by omega)
    clear c2
    have H' := Aside0.mk H
    clear H
    go_enter Try.func69, Try.ntmps69
    go_wp2
    go_loopg [3] k (fun kq v3 w' => ∃ (x3_1 : Int), v3 = .int .i64 x3_1 ∧ Aside0 (triremeref16_Right.l0 kq l0 x3_1 = some r) ∧ Aside0 (kq ≤ k) ∧ Aside0 (Below w.heap.size w w'))
    case atStart => exact ⟨(0), (by first | rfl | (simp; done) | (simp [*]; done)), H', ⟨Nat.le_refl _⟩, ⟨by repeat (first | (with_reducible first | exact HB.out | apply below_alloc | apply pw_below_drewN | apply below_drew1) | exact HB.out)⟩⟩
    case round =>
      clear H'
      try clear c2
      try clear c2b0
      try clear c2b1
      try clear p2
      obtain ⟨x3_1, rfl, HA, HK1, HB⟩ := hrel
      cases gk with
      | zero => exact absurd HA.out (by simp [triremeref16_Right.l0])
      | succ k1 =>
        have H := HA.out
        clear HA
        simp only [triremeref16_Right.l0] at H
        by_cases c3 : x3_1 < (l0.length : Int)
        · rw [if_pos c3] at H
          have c3b0 : decide (x3_1 < (l0.length : Int)) = true := decide_eq_true c3
          clear c3
          by_cases c4 : 0 ≤ x3_1
          · rw [if_pos c4] at H
            have c4b0 : decide (0 ≤ x3_1) = true := decide_eq_true c4
            clear c4
            replace H := Option.bind_eq_some_iff.mp H
            obtain ⟨t185, A50, H⟩ := H
            replace H : (if t185 = true then (if (((rd_T76 l0 x3_1).f0).size : Int) > 48 then (some false) else ((triremeref16_Find.f k1 l0 ((rd_T76 l0 x3_1).f0)).bind fun t188 => (if t188 = x3_1 then (triremeref16_Right.l0 k1 l0 (wrap64 (x3_1 + 1))) else (some false)))) else (some false)) = some r := H
            have A5 := Aside0.mk A50
            clear A50
            by_cases c6 : t185 = true
            · subst c6
              have H1 : (if (((rd_T76 l0 x3_1).f0).size : Int) > 48 then (some false) else ((triremeref16_Find.f k1 l0 ((rd_T76 l0 x3_1).f0)).bind fun t188 => (if t188 = x3_1 then (triremeref16_Right.l0 k1 l0 (wrap64 (x3_1 + 1))) else (some false)))) = some r := by rw [if_pos rfl] at H; exact H
              clear H
              have H := H1
              clear H1
              by_cases c7 : (((rd_T76 l0 x3_1).f0).size : Int) > 48
              · rw [if_pos c7] at H
                have c7b0 : decide (48 < (((rd_T76 l0 x3_1).f0).size : Int)) = true := decide_eq_true c7
                have c7b1 : decide (48 < ((rd_T76 l0 x3_1).f0).size) = true := decide_eq_true (by omega)
                clear c7
                obtain rfl := Option.some.inj H
                have p184 : 0 ≤ (x3_1 : Int) := of_decide_eq_true (by first | (with_reducible assumption) | assumption)
                have q184 : x3_1 < (l0.length : Int) := of_decide_eq_true (by first | (with_reducible assumption) | assumption)
                obtain ⟨ad184, A184_10, c184_10, A184_11, c184_11, e184, hx184_0, hx184_1, hx184_2, hx184_3, hx184_4, hx184_5, hx184_6, hx184_7, hx184_8, hx184_9, hx184_10, hx184_11, hx184_12, hx184_13, hx184_14, hl184_10, hi184_10, hl184_11, hi184_11⟩ := at_T76 HR0.out x3_1 p184 q184
                cases e184
                replace hx184_0 := (HB.out.cell (World.block_lt_of_cell? w _ hx184_0)).trans hx184_0
                replace hx184_1 := (HB.out.cell (World.block_lt_of_cell? w _ hx184_1)).trans hx184_1
                replace hx184_2 := (HB.out.cell (World.block_lt_of_cell? w _ hx184_2)).trans hx184_2
                replace hx184_3 := (HB.out.cell (World.block_lt_of_cell? w _ hx184_3)).trans hx184_3
                replace hx184_4 := (HB.out.cell (World.block_lt_of_cell? w _ hx184_4)).trans hx184_4
                replace hx184_5 := (HB.out.cell (World.block_lt_of_cell? w _ hx184_5)).trans hx184_5
                replace hx184_6 := (HB.out.cell (World.block_lt_of_cell? w _ hx184_6)).trans hx184_6
                replace hx184_7 := (HB.out.cell (World.block_lt_of_cell? w _ hx184_7)).trans hx184_7
                replace hx184_8 := (HB.out.cell (World.block_lt_of_cell? w _ hx184_8)).trans hx184_8
                replace hx184_9 := (HB.out.cell (World.block_lt_of_cell? w _ hx184_9)).trans hx184_9
                replace hx184_10 := (HB.out.cell (World.block_lt_of_cell? w _ hx184_10)).trans hx184_10
                replace hx184_11 := (HB.out.cell (World.block_lt_of_cell? w _ hx184_11)).trans hx184_11
                replace hx184_12 := (HB.out.cell (World.block_lt_of_cell? w _ hx184_12)).trans hx184_12
                replace hx184_13 := (HB.out.cell (World.block_lt_of_cell? w _ hx184_13)).trans hx184_13
                replace hx184_14 := (HB.out.cell (World.block_lt_of_cell? w _ hx184_14)).trans hx184_14
                have HR184_10 := Aside0.mk hi184_10
                have HC184_10 := Aside0.mk hl184_10
                clear hi184_10 hl184_10
                have HR184_11 := Aside0.mk hi184_11
                have HC184_11 := Aside0.mk hl184_11
                clear hi184_11 hl184_11
                replace p184 := eq_true p184
                replace q184 := eq_true q184
                go_wp2_with (first | ((with_reducible refine gate_callee (f := 103) rfl ?_); refine goesL_ (some 17) rfl rfl Try.func103 (by kernel_rfl) rfl #[.agg #[.string ((rd_T76 l0 x3_1).f0), .int .i64 ((rd_T76 l0 x3_1).f1), .int .i64 ((rd_T76 l0 x3_1).f2), .string ((rd_T76 l0 x3_1).f3.f0), .string ((rd_T76 l0 x3_1).f3.f1), .int .i64 ((rd_T76 l0 x3_1).f3.f2.f0), .int .i64 ((rd_T76 l0 x3_1).f3.f2.f1), .int .i64 ((rd_T76 l0 x3_1).f3.f2.f2), .int .i64 ((rd_T76 l0 x3_1).f3.f2.f3), .int .i64 ((rd_T76 l0 x3_1).f3.f2.f4), .slice A184_10 ((rd_T76 l0 x3_1).f3.f3).length c184_10, .slice A184_11 ((rd_T76 l0 x3_1).f3.f4).length c184_11, .bool ((rd_T76 l0 x3_1).f3.f5), .int .i64 ((rd_T76 l0 x3_1).f4), .int .i64 ((rd_T76 l0 x3_1).f5)]] rfl (by (try simp only [List.map_toArray, List.map_cons, List.map_nil]); first | done | rfl | (simp only [List.length_drop, List.length_take]; rfl)) ?_; (with_reducible refine (triremeref07_RightGroup.calls k1 ((rd_T76 l0 x3_1).f0) ((rd_T76 l0 x3_1).f1) ((rd_T76 l0 x3_1).f2) ((rd_T76 l0 x3_1).f3.f0) ((rd_T76 l0 x3_1).f3.f1) ((rd_T76 l0 x3_1).f3.f2.f0) ((rd_T76 l0 x3_1).f3.f2.f1) ((rd_T76 l0 x3_1).f3.f2.f2) ((rd_T76 l0 x3_1).f3.f2.f3) ((rd_T76 l0 x3_1).f3.f2.f4) _ _ ((rd_T76 l0 x3_1).f3.f3) _ _ ((rd_T76 l0 x3_1).f3.f4) ((rd_T76 l0 x3_1).f3.f5) ((rd_T76 l0 x3_1).f4) ((rd_T76 l0 x3_1).f5) true _ ?side1 ?side2 ?side3 ?side4 A5.out).mono ?_); (case side1 => repeat (first | exact (Kd.C_below HR184_10.out HB.out) | (with_reducible refine Kd.C_alloc ?_ _) | (with_reducible refine Kd.C_drewN ?_ _) | (with_reducible refine Kd.C_drew ?_))); (case side2 => exact HC184_10.out); (case side3 => repeat (first | exact (Kd.C_below HR184_11.out HB.out) | (with_reducible refine Kd.C_alloc ?_ _) | (with_reducible refine Kd.C_drewN ?_ _) | (with_reducible refine Kd.C_drew ?_))); (case side4 => exact HC184_11.out); rintro e w8 ⟨rfl, hb⟩; refine ⟨_, rfl, ?_⟩; have n0_ := Aside0.mk (below_step (by repeat (first | (with_reducible first | exact HB.out | apply below_alloc | apply pw_below_drewN | apply below_drew1) | exact HB.out)) hb); clear HB; have HB := n0_; clear n0_; (try clear hb); (try clear hb2); (try clear hk); (try clear hi); have p186 : 0 ≤ (x3_1 : Int) := of_decide_eq_true (by first | (with_reducible assumption) | assumption); have q186 : x3_1 < (l0.length : Int) := of_decide_eq_true (by first | (with_reducible assumption) | assumption); obtain ⟨ad186, A186_10, c186_10, A186_11, c186_11, e186, hx186_0, hx186_1, hx186_2, hx186_3, hx186_4, hx186_5, hx186_6, hx186_7, hx186_8, hx186_9, hx186_10, hx186_11, hx186_12, hx186_13, hx186_14, hl186_10, hi186_10, hl186_11, hi186_11⟩ := at_T76 HR0.out x3_1 p186 q186; obtain rfl : ad184 = ad186 := (by injection e186); replace hx186_0 := (HB.out.cell (World.block_lt_of_cell? w _ hx186_0)).trans hx186_0; replace hx186_1 := (HB.out.cell (World.block_lt_of_cell? w _ hx186_1)).trans hx186_1; replace hx186_2 := (HB.out.cell (World.block_lt_of_cell? w _ hx186_2)).trans hx186_2; replace hx186_3 := (HB.out.cell (World.block_lt_of_cell? w _ hx186_3)).trans hx186_3; replace hx186_4 := (HB.out.cell (World.block_lt_of_cell? w _ hx186_4)).trans hx186_4; replace hx186_5 := (HB.out.cell (World.block_lt_of_cell? w _ hx186_5)).trans hx186_5; replace hx186_6 := (HB.out.cell (World.block_lt_of_cell? w _ hx186_6)).trans hx186_6; replace hx186_7 := (HB.out.cell (World.block_lt_of_cell? w _ hx186_7)).trans hx186_7; replace hx186_8 := (HB.out.cell (World.block_lt_of_cell? w _ hx186_8)).trans hx186_8; replace hx186_9 := (HB.out.cell (World.block_lt_of_cell? w _ hx186_9)).trans hx186_9; replace hx186_10 := (HB.out.cell (World.block_lt_of_cell? w _ hx186_10)).trans hx186_10; replace hx186_11 := (HB.out.cell (World.block_lt_of_cell? w _ hx186_11)).trans hx186_11; replace hx186_12 := (HB.out.cell (World.block_lt_of_cell? w _ hx186_12)).trans hx186_12; replace hx186_13 := (HB.out.cell (World.block_lt_of_cell? w _ hx186_13)).trans hx186_13; replace hx186_14 := (HB.out.cell (World.block_lt_of_cell? w _ hx186_14)).trans hx186_14; have HR186_10 := Aside0.mk hi186_10; have HC186_10 := Aside0.mk hl186_10; clear hi186_10 hl186_10; have HR186_11 := Aside0.mk hi186_11; have HC186_11 := Aside0.mk hl186_11; clear hi186_11 hl186_11; replace p186 := eq_true p186; replace q186 := eq_true q186))
                go_ret
                exact ⟨by first | rfl | (simp [errW_none, errW_some] <;> rfl) | (simp [*, errW_none, errW_some] <;> rfl), by repeat (first | (with_reducible first | exact HB.out | apply below_alloc | apply pw_below_drewN | apply below_drew1) | exact HB.out)⟩
              · rw [if_neg c7] at H
                have c7b0 : decide (48 < (((rd_T76 l0 x3_1).f0).size : Int)) = false := decide_eq_false c7
                have c7b1 : decide (48 < ((rd_T76 l0 x3_1).f0).size) = false := decide_eq_false (by omega)
                clear c7
                replace H := Option.bind_eq_some_iff.mp H
                obtain ⟨t188, A90, H⟩ := H
                replace H : (if t188 = x3_1 then (triremeref16_Right.l0 k1 l0 (wrap64 (x3_1 + 1))) else (some false)) = some r := H
                have A9 := Aside0.mk A90
                clear A90
                by_cases c10 : t188 = x3_1
                · rw [if_pos c10] at H
                  have c10b0 : (t188 == x3_1) = true := beq_iff_eq.mpr c10
                  have c10b1 : (t188 != x3_1) = false := bne_eq_false_iff_eq.mpr c10
                  clear c10
                  have H' := Aside0.mk H
                  clear H
                  have p184 : 0 ≤ (x3_1 : Int) := of_decide_eq_true (by first | (with_reducible assumption) | assumption)
                  have q184 : x3_1 < (l0.length : Int) := of_decide_eq_true (by first | (with_reducible assumption) | assumption)
                  obtain ⟨ad184, A184_10, c184_10, A184_11, c184_11, e184, hx184_0, hx184_1, hx184_2, hx184_3, hx184_4, hx184_5, hx184_6, hx184_7, hx184_8, hx184_9, hx184_10, hx184_11, hx184_12, hx184_13, hx184_14, hl184_10, hi184_10, hl184_11, hi184_11⟩ := at_T76 HR0.out x3_1 p184 q184
                  cases e184
                  replace hx184_0 := (HB.out.cell (World.block_lt_of_cell? w _ hx184_0)).trans hx184_0
                  replace hx184_1 := (HB.out.cell (World.block_lt_of_cell? w _ hx184_1)).trans hx184_1
                  replace hx184_2 := (HB.out.cell (World.block_lt_of_cell? w _ hx184_2)).trans hx184_2
                  replace hx184_3 := (HB.out.cell (World.block_lt_of_cell? w _ hx184_3)).trans hx184_3
                  replace hx184_4 := (HB.out.cell (World.block_lt_of_cell? w _ hx184_4)).trans hx184_4
                  replace hx184_5 := (HB.out.cell (World.block_lt_of_cell? w _ hx184_5)).trans hx184_5
                  replace hx184_6 := (HB.out.cell (World.block_lt_of_cell? w _ hx184_6)).trans hx184_6
                  replace hx184_7 := (HB.out.cell (World.block_lt_of_cell? w _ hx184_7)).trans hx184_7
                  replace hx184_8 := (HB.out.cell (World.block_lt_of_cell? w _ hx184_8)).trans hx184_8
                  replace hx184_9 := (HB.out.cell (World.block_lt_of_cell? w _ hx184_9)).trans hx184_9
                  replace hx184_10 := (HB.out.cell (World.block_lt_of_cell? w _ hx184_10)).trans hx184_10
                  replace hx184_11 := (HB.out.cell (World.block_lt_of_cell? w _ hx184_11)).trans hx184_11
                  replace hx184_12 := (HB.out.cell (World.block_lt_of_cell? w _ hx184_12)).trans hx184_12
                  replace hx184_13 := (HB.out.cell (World.block_lt_of_cell? w _ hx184_13)).trans hx184_13
                  replace hx184_14 := (HB.out.cell (World.block_lt_of_cell? w _ hx184_14)).trans hx184_14
                  have HR184_10 := Aside0.mk hi184_10
                  have HC184_10 := Aside0.mk hl184_10
                  clear hi184_10 hl184_10
                  have HR184_11 := Aside0.mk hi184_11
                  have HC184_11 := Aside0.mk hl184_11
                  clear hi184_11 hl184_11
                  replace p184 := eq_true p184
                  replace q184 := eq_true q184
                  go_wp2_with (first | ((with_reducible refine gate_callee (f := 103) rfl ?_); refine goesL_ (some 17) rfl rfl Try.func103 (by kernel_rfl) rfl #[.agg #[.string ((rd_T76 l0 x3_1).f0), .int .i64 ((rd_T76 l0 x3_1).f1), .int .i64 ((rd_T76 l0 x3_1).f2), .string ((rd_T76 l0 x3_1).f3.f0), .string ((rd_T76 l0 x3_1).f3.f1), .int .i64 ((rd_T76 l0 x3_1).f3.f2.f0), .int .i64 ((rd_T76 l0 x3_1).f3.f2.f1), .int .i64 ((rd_T76 l0 x3_1).f3.f2.f2), .int .i64 ((rd_T76 l0 x3_1).f3.f2.f3), .int .i64 ((rd_T76 l0 x3_1).f3.f2.f4), .slice A184_10 ((rd_T76 l0 x3_1).f3.f3).length c184_10, .slice A184_11 ((rd_T76 l0 x3_1).f3.f4).length c184_11, .bool ((rd_T76 l0 x3_1).f3.f5), .int .i64 ((rd_T76 l0 x3_1).f4), .int .i64 ((rd_T76 l0 x3_1).f5)]] rfl (by (try simp only [List.map_toArray, List.map_cons, List.map_nil]); first | done | rfl | (simp only [List.length_drop, List.length_take]; rfl)) ?_; (with_reducible refine (triremeref07_RightGroup.calls k1 ((rd_T76 l0 x3_1).f0) ((rd_T76 l0 x3_1).f1) ((rd_T76 l0 x3_1).f2) ((rd_T76 l0 x3_1).f3.f0) ((rd_T76 l0 x3_1).f3.f1) ((rd_T76 l0 x3_1).f3.f2.f0) ((rd_T76 l0 x3_1).f3.f2.f1) ((rd_T76 l0 x3_1).f3.f2.f2) ((rd_T76 l0 x3_1).f3.f2.f3) ((rd_T76 l0 x3_1).f3.f2.f4) _ _ ((rd_T76 l0 x3_1).f3.f3) _ _ ((rd_T76 l0 x3_1).f3.f4) ((rd_T76 l0 x3_1).f3.f5) ((rd_T76 l0 x3_1).f4) ((rd_T76 l0 x3_1).f5) true _ ?side1 ?side2 ?side3 ?side4 A5.out).mono ?_); (case side1 => repeat (first | exact (Kd.C_below HR184_10.out HB.out) | (with_reducible refine Kd.C_alloc ?_ _) | (with_reducible refine Kd.C_drewN ?_ _) | (with_reducible refine Kd.C_drew ?_))); (case side2 => exact HC184_10.out); (case side3 => repeat (first | exact (Kd.C_below HR184_11.out HB.out) | (with_reducible refine Kd.C_alloc ?_ _) | (with_reducible refine Kd.C_drewN ?_ _) | (with_reducible refine Kd.C_drew ?_))); (case side4 => exact HC184_11.out); rintro e w11 ⟨rfl, hb⟩; refine ⟨_, rfl, ?_⟩; have n0_ := Aside0.mk (below_step (by repeat (first | (with_reducible first | exact HB.out | apply below_alloc | apply pw_below_drewN | apply below_drew1) | exact HB.out)) hb); clear HB; have HB := n0_; clear n0_; (try clear hb); (try clear hb2); (try clear hk); (try clear hi); have p186 : 0 ≤ (x3_1 : Int) := of_decide_eq_true (by first | (with_reducible assumption) | assumption); have q186 : x3_1 < (l0.length : Int) := of_decide_eq_true (by first | (with_reducible assumption) | assumption); obtain ⟨ad186, A186_10, c186_10, A186_11, c186_11, e186, hx186_0, hx186_1, hx186_2, hx186_3, hx186_4, hx186_5, hx186_6, hx186_7, hx186_8, hx186_9, hx186_10, hx186_11, hx186_12, hx186_13, hx186_14, hl186_10, hi186_10, hl186_11, hi186_11⟩ := at_T76 HR0.out x3_1 p186 q186; obtain rfl : ad184 = ad186 := (by injection e186); replace hx186_0 := (HB.out.cell (World.block_lt_of_cell? w _ hx186_0)).trans hx186_0; replace hx186_1 := (HB.out.cell (World.block_lt_of_cell? w _ hx186_1)).trans hx186_1; replace hx186_2 := (HB.out.cell (World.block_lt_of_cell? w _ hx186_2)).trans hx186_2; replace hx186_3 := (HB.out.cell (World.block_lt_of_cell? w _ hx186_3)).trans hx186_3; replace hx186_4 := (HB.out.cell (World.block_lt_of_cell? w _ hx186_4)).trans hx186_4; replace hx186_5 := (HB.out.cell (World.block_lt_of_cell? w _ hx186_5)).trans hx186_5; replace hx186_6 := (HB.out.cell (World.block_lt_of_cell? w _ hx186_6)).trans hx186_6; replace hx186_7 := (HB.out.cell (World.block_lt_of_cell? w _ hx186_7)).trans hx186_7; replace hx186_8 := (HB.out.cell (World.block_lt_of_cell? w _ hx186_8)).trans hx186_8; replace hx186_9 := (HB.out.cell (World.block_lt_of_cell? w _ hx186_9)).trans hx186_9; replace hx186_10 := (HB.out.cell (World.block_lt_of_cell? w _ hx186_10)).trans hx186_10; replace hx186_11 := (HB.out.cell (World.block_lt_of_cell? w _ hx186_11)).trans hx186_11; replace hx186_12 := (HB.out.cell (World.block_lt_of_cell? w _ hx186_12)).trans hx186_12; replace hx186_13 := (HB.out.cell (World.block_lt_of_cell? w _ hx186_13)).trans hx186_13; replace hx186_14 := (HB.out.cell (World.block_lt_of_cell? w _ hx186_14)).trans hx186_14; have HR186_10 := Aside0.mk hi186_10; have HC186_10 := Aside0.mk hl186_10; clear hi186_10 hl186_10; have HR186_11 := Aside0.mk hi186_11; have HC186_11 := Aside0.mk hl186_11; clear hi186_11 hl186_11; replace p186 := eq_true p186; replace q186 := eq_true q186; have p187 : 0 ≤ (x3_1 : Int) := of_decide_eq_true (by first | (with_reducible assumption) | assumption); have q187 : x3_1 < (l0.length : Int) := of_decide_eq_true (by first | (with_reducible assumption) | assumption); obtain ⟨ad187, A187_10, c187_10, A187_11, c187_11, e187, hx187_0, hx187_1, hx187_2, hx187_3, hx187_4, hx187_5, hx187_6, hx187_7, hx187_8, hx187_9, hx187_10, hx187_11, hx187_12, hx187_13, hx187_14, hl187_10, hi187_10, hl187_11, hi187_11⟩ := at_T76 HR0.out x3_1 p187 q187; obtain rfl : ad184 = ad187 := (by injection e187); replace hx187_0 := (HB.out.cell (World.block_lt_of_cell? w _ hx187_0)).trans hx187_0; replace hx187_1 := (HB.out.cell (World.block_lt_of_cell? w _ hx187_1)).trans hx187_1; replace hx187_2 := (HB.out.cell (World.block_lt_of_cell? w _ hx187_2)).trans hx187_2; replace hx187_3 := (HB.out.cell (World.block_lt_of_cell? w _ hx187_3)).trans hx187_3; replace hx187_4 := (HB.out.cell (World.block_lt_of_cell? w _ hx187_4)).trans hx187_4; replace hx187_5 := (HB.out.cell (World.block_lt_of_cell? w _ hx187_5)).trans hx187_5; replace hx187_6 := (HB.out.cell (World.block_lt_of_cell? w _ hx187_6)).trans hx187_6; replace hx187_7 := (HB.out.cell (World.block_lt_of_cell? w _ hx187_7)).trans hx187_7; replace hx187_8 := (HB.out.cell (World.block_lt_of_cell? w _ hx187_8)).trans hx187_8; replace hx187_9 := (HB.out.cell (World.block_lt_of_cell? w _ hx187_9)).trans hx187_9; replace hx187_10 := (HB.out.cell (World.block_lt_of_cell? w _ hx187_10)).trans hx187_10; replace hx187_11 := (HB.out.cell (World.block_lt_of_cell? w _ hx187_11)).trans hx187_11; replace hx187_12 := (HB.out.cell (World.block_lt_of_cell? w _ hx187_12)).trans hx187_12; replace hx187_13 := (HB.out.cell (World.block_lt_of_cell? w _ hx187_13)).trans hx187_13; replace hx187_14 := (HB.out.cell (World.block_lt_of_cell? w _ hx187_14)).trans hx187_14; have HR187_10 := Aside0.mk hi187_10; have HC187_10 := Aside0.mk hl187_10; clear hi187_10 hl187_10; have HR187_11 := Aside0.mk hi187_11; have HC187_11 := Aside0.mk hl187_11; clear hi187_11 hl187_11; replace p187 := eq_true p187; replace q187 := eq_true q187; have ea_ := Option.some.inj (hx186_10.symm.trans hx187_10); injection ea_ with ea_ en_ ec_; subst ea_; subst ec_; clear en_; have ea_ := Option.some.inj (hx186_11.symm.trans hx187_11); injection ea_ with ea_ en_ ec_; subst ea_; subst ec_; clear en_) | (go_at_call 101; (with_reducible refine (triremeref16_Find.calls k1 _ _ l0 ((rd_T76 l0 x3_1).f0) t188 _ ?side1 ?side2 A9.out).mono ?_); (case side1 => repeat (first | exact (Kd.C_below HR0.out HB.out) | (with_reducible refine Kd.C_alloc ?_ _) | (with_reducible refine Kd.C_drewN ?_ _) | (with_reducible refine Kd.C_drew ?_))); (case side2 => exact HC0.out); rintro e w' ⟨rfl, ⟨nd, rfl⟩⟩))
                  go_roundg k1
                  case measure => have := HK1.out; omega
                  case rel => exact ⟨(wrap64 (x3_1 + 1)), (by first | rfl | (simp; done) | (simp [*]; done)), H', ⟨by have := HK1.out; omega⟩, ⟨by repeat (first | (with_reducible first | exact HB.out | apply below_alloc | apply pw_below_drewN | apply below_drew1) | exact HB.out)⟩⟩
                · rw [if_neg c10] at H
                  have c10b0 : (t188 == x3_1) = false := beq_eq_false_iff_ne.mpr c10
                  have c10b1 : (t188 != x3_1) = true := bne_iff_ne.mpr c10
                  obtain rfl := Option.some.inj H
                  have p184 : 0 ≤ (x3_1 : Int) := of_decide_eq_true (by first | (with_reducible assumption) | assumption)
                  have q184 : x3_1 < (l0.length : Int) := of_decide_eq_true (by first | (with_reducible assumption) | assumption)
                  obtain ⟨ad184, A184_10, c184_10, A184_11, c184_11, e184, hx184_0, hx184_1, hx184_2, hx184_3, hx184_4, hx184_5, hx184_6, hx184_7, hx184_8, hx184_9, hx184_10, hx184_11, hx184_12, hx184_13, hx184_14, hl184_10, hi184_10, hl184_11, hi184_11⟩ := at_T76 HR0.out x3_1 p184 q184
                  cases e184
                  replace hx184_0 := (HB.out.cell (World.block_lt_of_cell? w _ hx184_0)).trans hx184_0
                  replace hx184_1 := (HB.out.cell (World.block_lt_of_cell? w _ hx184_1)).trans hx184_1
                  replace hx184_2 := (HB.out.cell (World.block_lt_of_cell? w _ hx184_2)).trans hx184_2
                  replace hx184_3 := (HB.out.cell (World.block_lt_of_cell? w _ hx184_3)).trans hx184_3
                  replace hx184_4 := (HB.out.cell (World.block_lt_of_cell? w _ hx184_4)).trans hx184_4
                  replace hx184_5 := (HB.out.cell (World.block_lt_of_cell? w _ hx184_5)).trans hx184_5
                  replace hx184_6 := (HB.out.cell (World.block_lt_of_cell? w _ hx184_6)).trans hx184_6
                  replace hx184_7 := (HB.out.cell (World.block_lt_of_cell? w _ hx184_7)).trans hx184_7
                  replace hx184_8 := (HB.out.cell (World.block_lt_of_cell? w _ hx184_8)).trans hx184_8
                  replace hx184_9 := (HB.out.cell (World.block_lt_of_cell? w _ hx184_9)).trans hx184_9
                  replace hx184_10 := (HB.out.cell (World.block_lt_of_cell? w _ hx184_10)).trans hx184_10
                  replace hx184_11 := (HB.out.cell (World.block_lt_of_cell? w _ hx184_11)).trans hx184_11
                  replace hx184_12 := (HB.out.cell (World.block_lt_of_cell? w _ hx184_12)).trans hx184_12
                  replace hx184_13 := (HB.out.cell (World.block_lt_of_cell? w _ hx184_13)).trans hx184_13
                  replace hx184_14 := (HB.out.cell (World.block_lt_of_cell? w _ hx184_14)).trans hx184_14
                  have HR184_10 := Aside0.mk hi184_10
                  have HC184_10 := Aside0.mk hl184_10
                  clear hi184_10 hl184_10
                  have HR184_11 := Aside0.mk hi184_11
                  have HC184_11 := Aside0.mk hl184_11
                  clear hi184_11 hl184_11
                  replace p184 := eq_true p184
                  replace q184 := eq_true q184
                  go_wp2_with (first | ((with_reducible refine gate_callee (f := 103) rfl ?_); refine goesL_ (some 17) rfl rfl Try.func103 (by kernel_rfl) rfl #[.agg #[.string ((rd_T76 l0 x3_1).f0), .int .i64 ((rd_T76 l0 x3_1).f1), .int .i64 ((rd_T76 l0 x3_1).f2), .string ((rd_T76 l0 x3_1).f3.f0), .string ((rd_T76 l0 x3_1).f3.f1), .int .i64 ((rd_T76 l0 x3_1).f3.f2.f0), .int .i64 ((rd_T76 l0 x3_1).f3.f2.f1), .int .i64 ((rd_T76 l0 x3_1).f3.f2.f2), .int .i64 ((rd_T76 l0 x3_1).f3.f2.f3), .int .i64 ((rd_T76 l0 x3_1).f3.f2.f4), .slice A184_10 ((rd_T76 l0 x3_1).f3.f3).length c184_10, .slice A184_11 ((rd_T76 l0 x3_1).f3.f4).length c184_11, .bool ((rd_T76 l0 x3_1).f3.f5), .int .i64 ((rd_T76 l0 x3_1).f4), .int .i64 ((rd_T76 l0 x3_1).f5)]] rfl (by (try simp only [List.map_toArray, List.map_cons, List.map_nil]); first | done | rfl | (simp only [List.length_drop, List.length_take]; rfl)) ?_; (with_reducible refine (triremeref07_RightGroup.calls k1 ((rd_T76 l0 x3_1).f0) ((rd_T76 l0 x3_1).f1) ((rd_T76 l0 x3_1).f2) ((rd_T76 l0 x3_1).f3.f0) ((rd_T76 l0 x3_1).f3.f1) ((rd_T76 l0 x3_1).f3.f2.f0) ((rd_T76 l0 x3_1).f3.f2.f1) ((rd_T76 l0 x3_1).f3.f2.f2) ((rd_T76 l0 x3_1).f3.f2.f3) ((rd_T76 l0 x3_1).f3.f2.f4) _ _ ((rd_T76 l0 x3_1).f3.f3) _ _ ((rd_T76 l0 x3_1).f3.f4) ((rd_T76 l0 x3_1).f3.f5) ((rd_T76 l0 x3_1).f4) ((rd_T76 l0 x3_1).f5) true _ ?side1 ?side2 ?side3 ?side4 A5.out).mono ?_); (case side1 => repeat (first | exact (Kd.C_below HR184_10.out HB.out) | (with_reducible refine Kd.C_alloc ?_ _) | (with_reducible refine Kd.C_drewN ?_ _) | (with_reducible refine Kd.C_drew ?_))); (case side2 => exact HC184_10.out); (case side3 => repeat (first | exact (Kd.C_below HR184_11.out HB.out) | (with_reducible refine Kd.C_alloc ?_ _) | (with_reducible refine Kd.C_drewN ?_ _) | (with_reducible refine Kd.C_drew ?_))); (case side4 => exact HC184_11.out); rintro e w12 ⟨rfl, hb⟩; refine ⟨_, rfl, ?_⟩; have n0_ := Aside0.mk (below_step (by repeat (first | (with_reducible first | exact HB.out | apply below_alloc | apply pw_below_drewN | apply below_drew1) | exact HB.out)) hb); clear HB; have HB := n0_; clear n0_; (try clear hb); (try clear hb2); (try clear hk); (try clear hi); have p186 : 0 ≤ (x3_1 : Int) := of_decide_eq_true (by first | (with_reducible assumption) | assumption); have q186 : x3_1 < (l0.length : Int) := of_decide_eq_true (by first | (with_reducible assumption) | assumption); obtain ⟨ad186, A186_10, c186_10, A186_11, c186_11, e186, hx186_0, hx186_1, hx186_2, hx186_3, hx186_4, hx186_5, hx186_6, hx186_7, hx186_8, hx186_9, hx186_10, hx186_11, hx186_12, hx186_13, hx186_14, hl186_10, hi186_10, hl186_11, hi186_11⟩ := at_T76 HR0.out x3_1 p186 q186; obtain rfl : ad184 = ad186 := (by injection e186); replace hx186_0 := (HB.out.cell (World.block_lt_of_cell? w _ hx186_0)).trans hx186_0; replace hx186_1 := (HB.out.cell (World.block_lt_of_cell? w _ hx186_1)).trans hx186_1; replace hx186_2 := (HB.out.cell (World.block_lt_of_cell? w _ hx186_2)).trans hx186_2; replace hx186_3 := (HB.out.cell (World.block_lt_of_cell? w _ hx186_3)).trans hx186_3; replace hx186_4 := (HB.out.cell (World.block_lt_of_cell? w _ hx186_4)).trans hx186_4; replace hx186_5 := (HB.out.cell (World.block_lt_of_cell? w _ hx186_5)).trans hx186_5; replace hx186_6 := (HB.out.cell (World.block_lt_of_cell? w _ hx186_6)).trans hx186_6; replace hx186_7 := (HB.out.cell (World.block_lt_of_cell? w _ hx186_7)).trans hx186_7; replace hx186_8 := (HB.out.cell (World.block_lt_of_cell? w _ hx186_8)).trans hx186_8; replace hx186_9 := (HB.out.cell (World.block_lt_of_cell? w _ hx186_9)).trans hx186_9; replace hx186_10 := (HB.out.cell (World.block_lt_of_cell? w _ hx186_10)).trans hx186_10; replace hx186_11 := (HB.out.cell (World.block_lt_of_cell? w _ hx186_11)).trans hx186_11; replace hx186_12 := (HB.out.cell (World.block_lt_of_cell? w _ hx186_12)).trans hx186_12; replace hx186_13 := (HB.out.cell (World.block_lt_of_cell? w _ hx186_13)).trans hx186_13; replace hx186_14 := (HB.out.cell (World.block_lt_of_cell? w _ hx186_14)).trans hx186_14; have HR186_10 := Aside0.mk hi186_10; have HC186_10 := Aside0.mk hl186_10; clear hi186_10 hl186_10; have HR186_11 := Aside0.mk hi186_11; have HC186_11 := Aside0.mk hl186_11; clear hi186_11 hl186_11; replace p186 := eq_true p186; replace q186 := eq_true q186; have p187 : 0 ≤ (x3_1 : Int) := of_decide_eq_true (by first | (with_reducible assumption) | assumption); have q187 : x3_1 < (l0.length : Int) := of_decide_eq_true (by first | (with_reducible assumption) | assumption); obtain ⟨ad187, A187_10, c187_10, A187_11, c187_11, e187, hx187_0, hx187_1, hx187_2, hx187_3, hx187_4, hx187_5, hx187_6, hx187_7, hx187_8, hx187_9, hx187_10, hx187_11, hx187_12, hx187_13, hx187_14, hl187_10, hi187_10, hl187_11, hi187_11⟩ := at_T76 HR0.out x3_1 p187 q187; obtain rfl : ad184 = ad187 := (by injection e187); replace hx187_0 := (HB.out.cell (World.block_lt_of_cell? w _ hx187_0)).trans hx187_0; replace hx187_1 := (HB.out.cell (World.block_lt_of_cell? w _ hx187_1)).trans hx187_1; replace hx187_2 := (HB.out.cell (World.block_lt_of_cell? w _ hx187_2)).trans hx187_2; replace hx187_3 := (HB.out.cell (World.block_lt_of_cell? w _ hx187_3)).trans hx187_3; replace hx187_4 := (HB.out.cell (World.block_lt_of_cell? w _ hx187_4)).trans hx187_4; replace hx187_5 := (HB.out.cell (World.block_lt_of_cell? w _ hx187_5)).trans hx187_5; replace hx187_6 := (HB.out.cell (World.block_lt_of_cell? w _ hx187_6)).trans hx187_6; replace hx187_7 := (HB.out.cell (World.block_lt_of_cell? w _ hx187_7)).trans hx187_7; replace hx187_8 := (HB.out.cell (World.block_lt_of_cell? w _ hx187_8)).trans hx187_8; replace hx187_9 := (HB.out.cell (World.block_lt_of_cell? w _ hx187_9)).trans hx187_9; replace hx187_10 := (HB.out.cell (World.block_lt_of_cell? w _ hx187_10)).trans hx187_10; replace hx187_11 := (HB.out.cell (World.block_lt_of_cell? w _ hx187_11)).trans hx187_11; replace hx187_12 := (HB.out.cell (World.block_lt_of_cell? w _ hx187_12)).trans hx187_12; replace hx187_13 := (HB.out.cell (World.block_lt_of_cell? w _ hx187_13)).trans hx187_13; replace hx187_14 := (HB.out.cell (World.block_lt_of_cell? w _ hx187_14)).trans hx187_14; have HR187_10 := Aside0.mk hi187_10; have HC187_10 := Aside0.mk hl187_10; clear hi187_10 hl187_10; have HR187_11 := Aside0.mk hi187_11; have HC187_11 := Aside0.mk hl187_11; clear hi187_11 hl187_11; replace p187 := eq_true p187; replace q187 := eq_true q187; have ea_ := Option.some.inj (hx186_10.symm.trans hx187_10); injection ea_ with ea_ en_ ec_; subst ea_; subst ec_; clear en_; have ea_ := Option.some.inj (hx186_11.symm.trans hx187_11); injection ea_ with ea_ en_ ec_; subst ea_; subst ec_; clear en_) | (go_at_call 101; (with_reducible refine (triremeref16_Find.calls k1 _ _ l0 ((rd_T76 l0 x3_1).f0) t188 _ ?side1 ?side2 A9.out).mono ?_); (case side1 => repeat (first | exact (Kd.C_below HR0.out HB.out) | (with_reducible refine Kd.C_alloc ?_ _) | (with_reducible refine Kd.C_drewN ?_ _) | (with_reducible refine Kd.C_drew ?_))); (case side2 => exact HC0.out); rintro e w' ⟨rfl, ⟨nd, rfl⟩⟩))
                  go_ret
                  exact ⟨by first | rfl | (simp [errW_none, errW_some] <;> rfl) | (simp [*, errW_none, errW_some] <;> rfl), by repeat (first | (with_reducible first | exact HB.out | apply below_alloc | apply pw_below_drewN | apply below_drew1) | exact HB.out)⟩
            · replace c6 := Bool.eq_false_iff.mpr c6
              subst c6
              have H1 : (some false) = some r := by rw [if_neg (show ¬ (false = true) by decide)] at H; exact H
              clear H
              have H := H1
              clear H1
              obtain rfl := Option.some.inj H
              have p184 : 0 ≤ (x3_1 : Int) := of_decide_eq_true (by first | (with_reducible assumption) | assumption)
              have q184 : x3_1 < (l0.length : Int) := of_decide_eq_true (by first | (with_reducible assumption) | assumption)
              obtain ⟨ad184, A184_10, c184_10, A184_11, c184_11, e184, hx184_0, hx184_1, hx184_2, hx184_3, hx184_4, hx184_5, hx184_6, hx184_7, hx184_8, hx184_9, hx184_10, hx184_11, hx184_12, hx184_13, hx184_14, hl184_10, hi184_10, hl184_11, hi184_11⟩ := at_T76 HR0.out x3_1 p184 q184
              cases e184
              replace hx184_0 := (HB.out.cell (World.block_lt_of_cell? w _ hx184_0)).trans hx184_0
              replace hx184_1 := (HB.out.cell (World.block_lt_of_cell? w _ hx184_1)).trans hx184_1
              replace hx184_2 := (HB.out.cell (World.block_lt_of_cell? w _ hx184_2)).trans hx184_2
              replace hx184_3 := (HB.out.cell (World.block_lt_of_cell? w _ hx184_3)).trans hx184_3
              replace hx184_4 := (HB.out.cell (World.block_lt_of_cell? w _ hx184_4)).trans hx184_4
              replace hx184_5 := (HB.out.cell (World.block_lt_of_cell? w _ hx184_5)).trans hx184_5
              replace hx184_6 := (HB.out.cell (World.block_lt_of_cell? w _ hx184_6)).trans hx184_6
              replace hx184_7 := (HB.out.cell (World.block_lt_of_cell? w _ hx184_7)).trans hx184_7
              replace hx184_8 := (HB.out.cell (World.block_lt_of_cell? w _ hx184_8)).trans hx184_8
              replace hx184_9 := (HB.out.cell (World.block_lt_of_cell? w _ hx184_9)).trans hx184_9
              replace hx184_10 := (HB.out.cell (World.block_lt_of_cell? w _ hx184_10)).trans hx184_10
              replace hx184_11 := (HB.out.cell (World.block_lt_of_cell? w _ hx184_11)).trans hx184_11
              replace hx184_12 := (HB.out.cell (World.block_lt_of_cell? w _ hx184_12)).trans hx184_12
              replace hx184_13 := (HB.out.cell (World.block_lt_of_cell? w _ hx184_13)).trans hx184_13
              replace hx184_14 := (HB.out.cell (World.block_lt_of_cell? w _ hx184_14)).trans hx184_14
              have HR184_10 := Aside0.mk hi184_10
              have HC184_10 := Aside0.mk hl184_10
              clear hi184_10 hl184_10
              have HR184_11 := Aside0.mk hi184_11
              have HC184_11 := Aside0.mk hl184_11
              clear hi184_11 hl184_11
              replace p184 := eq_true p184
              replace q184 := eq_true q184
              go_wp2_with (first | ((with_reducible refine gate_callee (f := 103) rfl ?_); refine goesL_ (some 17) rfl rfl Try.func103 (by kernel_rfl) rfl #[.agg #[.string ((rd_T76 l0 x3_1).f0), .int .i64 ((rd_T76 l0 x3_1).f1), .int .i64 ((rd_T76 l0 x3_1).f2), .string ((rd_T76 l0 x3_1).f3.f0), .string ((rd_T76 l0 x3_1).f3.f1), .int .i64 ((rd_T76 l0 x3_1).f3.f2.f0), .int .i64 ((rd_T76 l0 x3_1).f3.f2.f1), .int .i64 ((rd_T76 l0 x3_1).f3.f2.f2), .int .i64 ((rd_T76 l0 x3_1).f3.f2.f3), .int .i64 ((rd_T76 l0 x3_1).f3.f2.f4), .slice A184_10 ((rd_T76 l0 x3_1).f3.f3).length c184_10, .slice A184_11 ((rd_T76 l0 x3_1).f3.f4).length c184_11, .bool ((rd_T76 l0 x3_1).f3.f5), .int .i64 ((rd_T76 l0 x3_1).f4), .int .i64 ((rd_T76 l0 x3_1).f5)]] rfl (by (try simp only [List.map_toArray, List.map_cons, List.map_nil]); first | done | rfl | (simp only [List.length_drop, List.length_take]; rfl)) ?_; (with_reducible refine (triremeref07_RightGroup.calls k1 ((rd_T76 l0 x3_1).f0) ((rd_T76 l0 x3_1).f1) ((rd_T76 l0 x3_1).f2) ((rd_T76 l0 x3_1).f3.f0) ((rd_T76 l0 x3_1).f3.f1) ((rd_T76 l0 x3_1).f3.f2.f0) ((rd_T76 l0 x3_1).f3.f2.f1) ((rd_T76 l0 x3_1).f3.f2.f2) ((rd_T76 l0 x3_1).f3.f2.f3) ((rd_T76 l0 x3_1).f3.f2.f4) _ _ ((rd_T76 l0 x3_1).f3.f3) _ _ ((rd_T76 l0 x3_1).f3.f4) ((rd_T76 l0 x3_1).f3.f5) ((rd_T76 l0 x3_1).f4) ((rd_T76 l0 x3_1).f5) false _ ?side1 ?side2 ?side3 ?side4 A5.out).mono ?_); (case side1 => repeat (first | exact (Kd.C_below HR184_10.out HB.out) | (with_reducible refine Kd.C_alloc ?_ _) | (with_reducible refine Kd.C_drewN ?_ _) | (with_reducible refine Kd.C_drew ?_))); (case side2 => exact HC184_10.out); (case side3 => repeat (first | exact (Kd.C_below HR184_11.out HB.out) | (with_reducible refine Kd.C_alloc ?_ _) | (with_reducible refine Kd.C_drewN ?_ _) | (with_reducible refine Kd.C_drew ?_))); (case side4 => exact HC184_11.out); rintro e w13 ⟨rfl, hb⟩; refine ⟨_, rfl, ?_⟩; have n0_ := Aside0.mk (below_step (by repeat (first | (with_reducible first | exact HB.out | apply below_alloc | apply pw_below_drewN | apply below_drew1) | exact HB.out)) hb); clear HB; have HB := n0_; clear n0_; (try clear hb); (try clear hb2); (try clear hk); (try clear hi)))
              go_ret
              exact ⟨by first | rfl | (simp [errW_none, errW_some] <;> rfl) | (simp [*, errW_none, errW_some] <;> rfl), by repeat (first | (with_reducible first | exact HB.out | apply below_alloc | apply pw_below_drewN | apply below_drew1) | exact HB.out)⟩
          · rw [if_neg c4] at H
            exact absurd H (by simp)
        · rw [if_neg c3] at H
          have c3b0 : decide (x3_1 < (l0.length : Int)) = false := decide_eq_false c3
          clear c3
          obtain rfl := Option.some.inj H
          go_wp2
          go_ret
          exact ⟨by first | rfl | (simp [errW_none, errW_some] <;> rfl) | (simp [*, errW_none, errW_some] <;> rfl), by repeat (first | (with_reducible first | exact HB.out | apply below_alloc | apply pw_below_drewN | apply below_drew1) | exact HB.out)⟩

-- NOT PRINTED: function 56 (triremeref35_New)

-- NOT PRINTED: function 58 (triremeref35_Table_Add)

-- NOT PRINTED: function 59 (ledger_Table_Copy)

/-! ### triremeref35_count: function 102 -/
def triremeref35_count.l0 : Nat → List (S135) → ByteArray → Int → Int → Option (Int)
  | 0, _, _, _, _ => none
  | k + 1, x0, x1, x5, x6 => if x6 < (x0.length : Int) then (if 0 ≤ x6 then (if ((rd_T135 x0 x6).f1).toList = x1.toList then (if ((rd_T135 x0 x6).f2) = 3 then (triremeref35_count.l0 k x0 x1 x5 (wrap64 (x6 + 1))) else (triremeref35_count.l0 k x0 x1 (wrap64 (x5 + 1)) (wrap64 (x6 + 1)))) else (triremeref35_count.l0 k x0 x1 x5 (wrap64 (x6 + 1)))) else (none)) else (some x5)
def triremeref35_count.f (k : Nat) (l0 : List (S135)) (a1 : ByteArray) : Option (Int) := triremeref35_count.l0 k l0 a1 0 0
theorem triremeref35_count.mono_l : ∀ k, (∀ y0 y1 y2 y3, LeO (triremeref35_count.l0 k y0 y1 y2 y3) (triremeref35_count.l0 (k + 1) y0 y1 y2 y3))
  | 0 => fun _ _ _ _ r h => by simp [triremeref35_count.l0] at h
  | k + 1 => by
    have ih0 := triremeref35_count.mono_l k
    · intro y0 y1 y2 y3
      unfold triremeref35_count.l0
      repeat' first
      | (with_reducible exact ih0 _ _ _ _)
      | (with_reducible exact LeO.refl _)
      | (with_reducible exact LeO.none _)
      | (with_reducible refine LeO.ite ?_ ?_)
      | (with_reducible refine LeO.bind ?_ (fun _ => ?_))
      | exact ih0 _ _ _ _
      | exact LeO.none _
      | refine LeO.ite ?_ ?_
      | refine LeO.bind ?_ (fun _ => ?_)
theorem triremeref35_count.mono : ∀ a0 a1 k, LeO (triremeref35_count.f k a0 a1) (triremeref35_count.f (k + 1) a0 a1) := by
  intro a0 a1 k
  have ih0 := triremeref35_count.mono_l k
  unfold triremeref35_count.f
  repeat' first
      | (with_reducible exact ih0 _ _ _ _)
      | (with_reducible exact LeO.refl _)
      | (with_reducible exact LeO.none _)
      | (with_reducible refine LeO.ite ?_ ?_)
      | (with_reducible refine LeO.bind ?_ (fun _ => ?_))
      | exact ih0 _ _ _ _
      | exact LeO.none _
      | refine LeO.ite ?_ ?_
      | refine LeO.bind ?_ (fun _ => ?_)
set_option maxHeartbeats 8000000 in
set_option maxRecDepth 100000 in
theorem triremeref35_count.calls (k : Nat) (A0 : Option Addr) (c0 : Nat) (l0 : List (S135)) (a1 : ByteArray) (r : Int) (w : World) (hr0 : Kd.C k135 w A0 l0.length l0) (hc0 : l0.length ≤ c0) (h : triremeref35_count.f k l0 a1 = some r) :
    Calls Try.prog 102 #[.slice A0 l0.length c0, .string a1] w fun e w' => e = .returned (.int .i64 r) ∧ Drawn0 w w' := by
  have HR0 := Aside0.mk hr0
  have HC0 := Aside0.mk hc0
  clear hr0 hc0
  have H : (triremeref35_count.l0 k l0 a1 0 0) = some r := h
  clear h
  have H' := Aside0.mk H
  clear H
  go_enter Try.func102, Try.ntmps102
  go_wp2
  go_loopg [5, 6] k (fun kq v5 v6 w' => ∃ (x5_1 : Int) (x6_1 : Int), v5 = .int .i64 x5_1 ∧ v6 = .int .i64 x6_1 ∧ Aside0 (triremeref35_count.l0 kq l0 a1 x5_1 x6_1 = some r) ∧ Aside0 (kq ≤ k) ∧ Drawn0 w w')
  case atStart => exact ⟨(0), (0), (by first | rfl | (simp; done) | (simp [*]; done)), (by first | rfl | (simp; done) | (simp [*]; done)), H', ⟨Nat.le_refl _⟩, by repeat (first | exact Drawn0.refl _ | apply Drawn0.step)⟩
  case round =>
    clear H'
    try clear c1
    try clear p2
    obtain ⟨x5_1, x6_1, rfl, rfl, HA, HK1, ⟨m1, rfl⟩⟩ := hrel
    cases gk with
    | zero => exact absurd HA.out (by simp [triremeref35_count.l0])
    | succ k1 =>
      have H := HA.out
      clear HA
      simp only [triremeref35_count.l0] at H
      by_cases c3 : x6_1 < (l0.length : Int)
      · rw [if_pos c3] at H
        have c3b0 : decide (x6_1 < (l0.length : Int)) = true := decide_eq_true c3
        clear c3
        by_cases c4 : 0 ≤ x6_1
        · rw [if_pos c4] at H
          have c4b0 : decide (0 ≤ x6_1) = true := decide_eq_true c4
          clear c4
          by_cases c5 : ((rd_T135 l0 x6_1).f1).toList = a1.toList
          · rw [if_pos c5] at H
            have c5b0 : (((rd_T135 l0 x6_1).f1).toList == a1.toList) = true := beq_iff_eq.mpr c5
            have c5b1 : (((rd_T135 l0 x6_1).f1).toList != a1.toList) = false := bne_eq_false_iff_eq.mpr c5
            clear c5
            by_cases c6 : ((rd_T135 l0 x6_1).f2) = 3
            · rw [if_pos c6] at H
              have c6b0 : (((rd_T135 l0 x6_1).f2) == 3) = true := beq_iff_eq.mpr c6
              have c6b1 : (((rd_T135 l0 x6_1).f2) != 3) = false := bne_eq_false_iff_eq.mpr c6
              clear c6
              have H' := Aside0.mk H
              clear H
              have p189 : 0 ≤ (x6_1 : Int) := of_decide_eq_true (by first | (with_reducible assumption) | assumption)
              have q189 : x6_1 < (l0.length : Int) := of_decide_eq_true (by first | (with_reducible assumption) | assumption)
              obtain ⟨ad189, e189, hx189_0, hx189_1, hx189_2, hx189_3, hx189_4⟩ := at_T135 HR0.out x6_1 p189 q189
              cases e189
              replace p189 := eq_true p189
              replace q189 := eq_true q189
              have p190 : 0 ≤ (x6_1 : Int) := of_decide_eq_true (by first | (with_reducible assumption) | assumption)
              have q190 : x6_1 < (l0.length : Int) := of_decide_eq_true (by first | (with_reducible assumption) | assumption)
              obtain ⟨ad190, e190, hx190_0, hx190_1, hx190_2, hx190_3, hx190_4⟩ := at_T135 HR0.out x6_1 p190 q190
              obtain rfl : ad189 = ad190 := (by injection e190)
              replace p190 := eq_true p190
              replace q190 := eq_true q190
              go_wp2
              go_roundg k1
              case measure => have := HK1.out; omega
              case rel => exact ⟨(x5_1), (wrap64 (x6_1 + 1)), (by first | rfl | (simp; done) | (simp [*]; done)), (by first | rfl | (simp; done) | (simp [*]; done)), H', ⟨by have := HK1.out; omega⟩, by repeat (first | exact Drawn0.refl _ | apply Drawn0.step)⟩
            · rw [if_neg c6] at H
              have c6b0 : (((rd_T135 l0 x6_1).f2) == 3) = false := beq_eq_false_iff_ne.mpr c6
              have c6b1 : (((rd_T135 l0 x6_1).f2) != 3) = true := bne_iff_ne.mpr c6
              have H' := Aside0.mk H
              clear H
              have p189 : 0 ≤ (x6_1 : Int) := of_decide_eq_true (by first | (with_reducible assumption) | assumption)
              have q189 : x6_1 < (l0.length : Int) := of_decide_eq_true (by first | (with_reducible assumption) | assumption)
              obtain ⟨ad189, e189, hx189_0, hx189_1, hx189_2, hx189_3, hx189_4⟩ := at_T135 HR0.out x6_1 p189 q189
              cases e189
              replace p189 := eq_true p189
              replace q189 := eq_true q189
              have p190 : 0 ≤ (x6_1 : Int) := of_decide_eq_true (by first | (with_reducible assumption) | assumption)
              have q190 : x6_1 < (l0.length : Int) := of_decide_eq_true (by first | (with_reducible assumption) | assumption)
              obtain ⟨ad190, e190, hx190_0, hx190_1, hx190_2, hx190_3, hx190_4⟩ := at_T135 HR0.out x6_1 p190 q190
              obtain rfl : ad189 = ad190 := (by injection e190)
              replace p190 := eq_true p190
              replace q190 := eq_true q190
              go_wp2
              go_roundg k1
              case measure => have := HK1.out; omega
              case rel => exact ⟨(wrap64 (x5_1 + 1)), (wrap64 (x6_1 + 1)), (by first | rfl | (simp; done) | (simp [*]; done)), (by first | rfl | (simp; done) | (simp [*]; done)), H', ⟨by have := HK1.out; omega⟩, by repeat (first | exact Drawn0.refl _ | apply Drawn0.step)⟩
          · rw [if_neg c5] at H
            have c5b0 : (((rd_T135 l0 x6_1).f1).toList == a1.toList) = false := beq_eq_false_iff_ne.mpr c5
            have c5b1 : (((rd_T135 l0 x6_1).f1).toList != a1.toList) = true := bne_iff_ne.mpr c5
            have H' := Aside0.mk H
            clear H
            have p189 : 0 ≤ (x6_1 : Int) := of_decide_eq_true (by first | (with_reducible assumption) | assumption)
            have q189 : x6_1 < (l0.length : Int) := of_decide_eq_true (by first | (with_reducible assumption) | assumption)
            obtain ⟨ad189, e189, hx189_0, hx189_1, hx189_2, hx189_3, hx189_4⟩ := at_T135 HR0.out x6_1 p189 q189
            cases e189
            replace p189 := eq_true p189
            replace q189 := eq_true q189
            go_wp2
            go_roundg k1
            case measure => have := HK1.out; omega
            case rel => exact ⟨(x5_1), (wrap64 (x6_1 + 1)), (by first | rfl | (simp; done) | (simp [*]; done)), (by first | rfl | (simp; done) | (simp [*]; done)), H', ⟨by have := HK1.out; omega⟩, by repeat (first | exact Drawn0.refl _ | apply Drawn0.step)⟩
        · rw [if_neg c4] at H
          exact absurd H (by simp)
      · rw [if_neg c3] at H
        have c3b0 : decide (x6_1 < (l0.length : Int)) = false := decide_eq_false c3
        clear c3
        obtain rfl := Option.some.inj H
        go_wp2
        go_ret
        exact ⟨by first | rfl | (simp; done) | (simp [*]; done), by repeat (first | exact Drawn0.refl _ | apply Drawn0.step)⟩

-- NOT PRINTED: function 65 (triremeref35_Table_All)

-- NOT PRINTED: function 61 (triremeref35_Table_Sum)

-- NOT PRINTED: function 63 (triremeref35_Table_Peak)

-- NOT PRINTED: function 67 (triremeref35_Table_Total)

-- NOT PRINTED: function 9 (triremelaw35_LedgerTells)

end Go.Proofs.Ytdpchfifaidamaa.PLedgerTells
