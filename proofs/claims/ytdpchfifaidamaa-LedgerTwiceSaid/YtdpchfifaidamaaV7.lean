/- After the kit's print of LedgerTells, part 7: same definitions and proofs, fewer words imported (wip/gen_v.py). No condition. -/
import Derived.Test.YtdpchfifaidamaaV0
import Derived.Test.YtdpchfifaidamaaV5
import Derived.Test.YtdpchfifaidamaaV6
namespace Go.Proofs.Ytdpchfifaidamaa.PLedgerTells
open Go.RowKit Go.Proofs.YtdpchfifaidamaaW.PrintWords Go.Proofs.YtdpchfifaidamaaW.PrintLast
set_option linter.unusedVariables false
set_option linter.unusedSimpArgs false

/-! ### triremeref07_maybe: function 140 -/
def triremeref07_maybe.f (k : Nat) (a0 : ByteArray) : Option (Bool) := if a0.toList = ([] : List UInt8) then (some true) else ((triremeref01_Word.f k a0).bind fun t153 => (some t153))
theorem triremeref07_maybe.mono : ∀ a0 k, LeO (triremeref07_maybe.f k a0) (triremeref07_maybe.f (k + 1) a0) := by
  intro a0 k
  unfold triremeref07_maybe.f
  repeat' first
      | (with_reducible exact triremeref01_Word.mono _ _)
      | (with_reducible exact LeO.refl _)
      | (with_reducible exact LeO.none _)
      | (with_reducible refine LeO.ite ?_ ?_)
      | (with_reducible refine LeO.bind ?_ (fun _ => ?_))
      | exact triremeref01_Word.mono _ _
      | exact LeO.none _
      | refine LeO.ite ?_ ?_
      | refine LeO.bind ?_ (fun _ => ?_)
set_option maxHeartbeats 8000000 in
set_option maxRecDepth 100000 in
theorem triremeref07_maybe.calls (k : Nat) (a0 : ByteArray) (r : Bool) (w : World) (h : triremeref07_maybe.f k a0 = some r) :
    Calls Try.prog 140 #[.string a0] w fun e w' => e = .returned (.bool r) ∧ Drawn0 w w' := by
  have H : (if a0.toList = ([] : List UInt8) then (some true) else ((triremeref01_Word.f k a0).bind fun t153 => (some t153))) = some r := h
  clear h
  by_cases c2 : a0.toList = ([] : List UInt8)
  · rw [if_pos c2] at H
    have c2b0 : (a0.toList == ([] : List UInt8)) = true := beq_iff_eq.mpr c2
    have c2b1 : (a0.toList != ([] : List UInt8)) = false := bne_eq_false_iff_eq.mpr c2
    clear c2
    obtain rfl := Option.some.inj H
    go_enter Try.func140, Try.ntmps140
    go_wp2
    go_ret
    exact ⟨by first | rfl | (simp; done) | (simp [*]; done), by repeat (first | exact Drawn0.refl _ | apply Drawn0.step)⟩
  · rw [if_neg c2] at H
    have c2b0 : (a0.toList == ([] : List UInt8)) = false := beq_eq_false_iff_ne.mpr c2
    have c2b1 : (a0.toList != ([] : List UInt8)) = true := bne_iff_ne.mpr c2
    replace H := Option.bind_eq_some_iff.mp H
    obtain ⟨t153, A30, H⟩ := H
    replace H : (some t153) = some r := H
    have A3 := Aside0.mk A30
    clear A30
    obtain rfl := Option.some.inj H
    go_enter Try.func140, Try.ntmps140
    go_wp2_with (first | (go_at_call 112; (with_reducible refine (triremeref01_Word.calls k a0 t153 _ A3.out).mono ?_); rintro e w' ⟨rfl, ⟨nd, rfl⟩⟩))
    go_ret
    exact ⟨by first | rfl | (simp; done) | (simp [*]; done), by repeat (first | exact Drawn0.refl _ | apply Drawn0.step)⟩

/-! ### triremeref04_one: function 151 -/
def triremeref04_one.f (a0 : Int) : Option (Bool) := if a0 ≥ 0 then (some (decide (a0 ≤ 1125899906842624))) else (some false)
set_option maxHeartbeats 8000000 in
set_option maxRecDepth 100000 in
theorem triremeref04_one.calls (a0 : Int) (r : Bool) (w : World) (h : triremeref04_one.f a0 = some r) :
    Calls Try.prog 151 #[.int .i64 a0] w fun e w' => e = .returned (.bool r) ∧ Drawn0 w w' := by
  have H : (if a0 ≥ 0 then (some (decide (a0 ≤ 1125899906842624))) else (some false)) = some r := h
  clear h
  by_cases c2 : a0 ≥ 0
  · rw [if_pos c2] at H
    have c2b0 : decide (0 ≤ a0) = true := decide_eq_true c2
    clear c2
    obtain rfl := Option.some.inj H
    go_enter Try.func151, Try.ntmps151
    go_wp2
    go_ret
    exact ⟨by first | rfl | (simp; done) | (simp [*]; done), by repeat (first | exact Drawn0.refl _ | apply Drawn0.step)⟩
  · rw [if_neg c2] at H
    have c2b0 : decide (0 ≤ a0) = false := decide_eq_false c2
    clear c2
    obtain rfl := Option.some.inj H
    go_enter Try.func151, Try.ntmps151
    go_wp2
    go_ret
    exact ⟨by first | rfl | (simp; done) | (simp [*]; done), by repeat (first | exact Drawn0.refl _ | apply Drawn0.step)⟩

/-! ### triremeref04_Right: function 141 -/
def triremeref04_Right.f (a0_0 : Int) (a0_1 : Int) (a0_2 : Int) (a0_3 : Int) (a0_4 : Int) : Option (Bool) := (triremeref04_one.f a0_0).bind fun t155 => (if t155 = true then ((triremeref04_one.f a0_1).bind fun t156 => (if t156 = true then ((triremeref04_one.f a0_2).bind fun t157 => (if t157 = true then ((triremeref04_one.f a0_3).bind fun t158 => (if t158 = true then ((triremeref04_one.f a0_4).bind fun t159 => (some t159)) else (some false))) else (some false))) else (some false))) else (some false))
set_option maxHeartbeats 8000000 in
set_option maxRecDepth 100000 in
theorem triremeref04_Right.calls (a0_0 : Int) (a0_1 : Int) (a0_2 : Int) (a0_3 : Int) (a0_4 : Int) (r : Bool) (w : World) (h : triremeref04_Right.f a0_0 a0_1 a0_2 a0_3 a0_4 = some r) :
    Calls Try.prog 141 #[.agg #[.int .i64 a0_0, .int .i64 a0_1, .int .i64 a0_2, .int .i64 a0_3, .int .i64 a0_4]] w fun e w' => e = .returned (.bool r) ∧ Below w.heap.size w w' := by
  have hu70 := Try.underlying70
  have HB := Aside0.mk (Below.refl w.heap.size w)
  have H : ((triremeref04_one.f a0_0).bind fun t155 => (if t155 = true then ((triremeref04_one.f a0_1).bind fun t156 => (if t156 = true then ((triremeref04_one.f a0_2).bind fun t157 => (if t157 = true then ((triremeref04_one.f a0_3).bind fun t158 => (if t158 = true then ((triremeref04_one.f a0_4).bind fun t159 => (some t159)) else (some false))) else (some false))) else (some false))) else (some false))) = some r := h
  clear h
  replace H := Option.bind_eq_some_iff.mp H
  obtain ⟨t155, A20, H⟩ := H
  replace H : (if t155 = true then ((triremeref04_one.f a0_1).bind fun t156 => (if t156 = true then ((triremeref04_one.f a0_2).bind fun t157 => (if t157 = true then ((triremeref04_one.f a0_3).bind fun t158 => (if t158 = true then ((triremeref04_one.f a0_4).bind fun t159 => (some t159)) else (some false))) else (some false))) else (some false))) else (some false)) = some r := H
  have A2 := Aside0.mk A20
  clear A20
  by_cases c3 : t155 = true
  · subst c3
    have H1 : ((triremeref04_one.f a0_1).bind fun t156 => (if t156 = true then ((triremeref04_one.f a0_2).bind fun t157 => (if t157 = true then ((triremeref04_one.f a0_3).bind fun t158 => (if t158 = true then ((triremeref04_one.f a0_4).bind fun t159 => (some t159)) else (some false))) else (some false))) else (some false))) = some r := by rw [if_pos rfl] at H; exact H
    clear H
    have H := H1
    clear H1
    replace H := Option.bind_eq_some_iff.mp H
    obtain ⟨t156, A40, H⟩ := H
    replace H : (if t156 = true then ((triremeref04_one.f a0_2).bind fun t157 => (if t157 = true then ((triremeref04_one.f a0_3).bind fun t158 => (if t158 = true then ((triremeref04_one.f a0_4).bind fun t159 => (some t159)) else (some false))) else (some false))) else (some false)) = some r := H
    have A4 := Aside0.mk A40
    clear A40
    by_cases c5 : t156 = true
    · subst c5
      have H1 : ((triremeref04_one.f a0_2).bind fun t157 => (if t157 = true then ((triremeref04_one.f a0_3).bind fun t158 => (if t158 = true then ((triremeref04_one.f a0_4).bind fun t159 => (some t159)) else (some false))) else (some false))) = some r := by rw [if_pos rfl] at H; exact H
      clear H
      have H := H1
      clear H1
      replace H := Option.bind_eq_some_iff.mp H
      obtain ⟨t157, A60, H⟩ := H
      replace H : (if t157 = true then ((triremeref04_one.f a0_3).bind fun t158 => (if t158 = true then ((triremeref04_one.f a0_4).bind fun t159 => (some t159)) else (some false))) else (some false)) = some r := H
      have A6 := Aside0.mk A60
      clear A60
      by_cases c7 : t157 = true
      · subst c7
        have H1 : ((triremeref04_one.f a0_3).bind fun t158 => (if t158 = true then ((triremeref04_one.f a0_4).bind fun t159 => (some t159)) else (some false))) = some r := by rw [if_pos rfl] at H; exact H
        clear H
        have H := H1
        clear H1
        replace H := Option.bind_eq_some_iff.mp H
        obtain ⟨t158, A80, H⟩ := H
        replace H : (if t158 = true then ((triremeref04_one.f a0_4).bind fun t159 => (some t159)) else (some false)) = some r := H
        have A8 := Aside0.mk A80
        clear A80
        by_cases c9 : t158 = true
        · subst c9
          have H1 : ((triremeref04_one.f a0_4).bind fun t159 => (some t159)) = some r := by rw [if_pos rfl] at H; exact H
          clear H
          have H := H1
          clear H1
          replace H := Option.bind_eq_some_iff.mp H
          obtain ⟨t159, A100, H⟩ := H
          replace H : (some t159) = some r := H
          have A10 := Aside0.mk A100
          clear A100
          obtain rfl := Option.some.inj H
          go_enter Try.func141, Try.ntmps141
          go_wp2_with (first | ((with_reducible refine gate_dst (N := 1) rfl ?_); refine box_event ?hg (N := 1) ?hd (cs := #[.int .i64 a0_0, .int .i64 a0_1, .int .i64 a0_2, .int .i64 a0_3, .int .i64 a0_4]) (t := 70) ?hr ?_; (case hd => rfl); (case hg => rfl); (case hr => first | (go_simp; done) | (go_simp; rfl)); intro gb154 hg w11 hbox hb; have n0_ := Aside0.mk (below_step (by repeat (first | (with_reducible first | exact HB.out | apply below_alloc | apply pw_below_drewN | apply below_drew1) | exact HB.out)) hb); have n1_ := Aside0.mk (hbox); have n2_ := Aside0.mk ((by rw [hg]; exact (below_size (by repeat (first | (with_reducible first | exact HB.out | apply below_alloc | apply pw_below_drewN | apply below_drew1) | exact HB.out))) : w.heap.size ≤ gb154)); have n3_ := Aside0.mk ((by rw [hg]; exact (below_size (by repeat (first | (with_reducible first | exact HB.out | apply below_alloc | apply pw_below_drewN | apply below_drew1) | exact HB.out))) : w.heap.size ≤ gb154)); clear HB; have HB := n0_; have BK154 := n1_; have GW154 := n2_; have GE154 := n3_; clear n0_ n1_ n2_ n3_; clear hb hbox hg; have hcz12_0 : w11.cell? ⟨gb154, 0, none⟩ = some (.int .i64 a0_0) := (blk_cell BK154.out 0).trans rfl; have hcz12_1 : w11.cell? ⟨gb154, 1, none⟩ = some (.int .i64 a0_1) := (blk_cell BK154.out 1).trans rfl; have hcz12_2 : w11.cell? ⟨gb154, 2, none⟩ = some (.int .i64 a0_2) := (blk_cell BK154.out 2).trans rfl; have hcz12_3 : w11.cell? ⟨gb154, 3, none⟩ = some (.int .i64 a0_3) := (blk_cell BK154.out 3).trans rfl; have hcz12_4 : w11.cell? ⟨gb154, 4, none⟩ = some (.int .i64 a0_4) := (blk_cell BK154.out 4).trans rfl; have hfz12_0 := blk_frozen BK154.out 0; have hfz12_1 := blk_frozen BK154.out 1; have hfz12_2 := blk_frozen BK154.out 2; have hfz12_3 := blk_frozen BK154.out 3; have hfz12_4 := blk_frozen BK154.out 4) | ((with_reducible refine gate_callee (f := 151) rfl ?_); refine goesL_ (some 5) rfl rfl Try.func151 (by kernel_rfl) rfl #[.int .i64 a0_0] rfl (by (try simp only [List.map_toArray, List.map_cons, List.map_nil]); first | done | rfl | (simp only [List.length_drop, List.length_take]; rfl)) ?_; (with_reducible refine (triremeref04_one.calls a0_0 true _ A2.out).mono ?_); rintro e w' ⟨rfl, ⟨nd, rfl⟩⟩; refine ⟨_, rfl, ?_⟩) | (go_at_call 151; (with_reducible refine (triremeref04_one.calls a0_1 true _ A4.out).mono ?_); rintro e w' ⟨rfl, ⟨nd, rfl⟩⟩) | (go_at_call 151; (with_reducible refine (triremeref04_one.calls a0_2 true _ A6.out).mono ?_); rintro e w' ⟨rfl, ⟨nd, rfl⟩⟩) | (go_at_call 151; (with_reducible refine (triremeref04_one.calls a0_3 true _ A8.out).mono ?_); rintro e w' ⟨rfl, ⟨nd, rfl⟩⟩) | (go_at_call 151; (with_reducible refine (triremeref04_one.calls a0_4 t159 _ A10.out).mono ?_); rintro e w' ⟨rfl, ⟨nd, rfl⟩⟩))
          go_ret
          exact ⟨by first | rfl | (simp [errW_none, errW_some] <;> rfl) | (simp [*, errW_none, errW_some] <;> rfl), by repeat (first | (with_reducible first | exact HB.out | apply below_alloc | apply pw_below_drewN | apply below_drew1 | refine below_set ?_ GE154.out) | exact HB.out)⟩
        · replace c9 := Bool.eq_false_iff.mpr c9
          subst c9
          have H1 : (some false) = some r := by rw [if_neg (show ¬ (false = true) by decide)] at H; exact H
          clear H
          have H := H1
          clear H1
          obtain rfl := Option.some.inj H
          go_enter Try.func141, Try.ntmps141
          go_wp2_with (first | ((with_reducible refine gate_dst (N := 1) rfl ?_); refine box_event ?hg (N := 1) ?hd (cs := #[.int .i64 a0_0, .int .i64 a0_1, .int .i64 a0_2, .int .i64 a0_3, .int .i64 a0_4]) (t := 70) ?hr ?_; (case hd => rfl); (case hg => rfl); (case hr => first | (go_simp; done) | (go_simp; rfl)); intro gb154 hg w13 hbox hb; have n0_ := Aside0.mk (below_step (by repeat (first | (with_reducible first | exact HB.out | apply below_alloc | apply pw_below_drewN | apply below_drew1) | exact HB.out)) hb); have n1_ := Aside0.mk (hbox); have n2_ := Aside0.mk ((by rw [hg]; exact (below_size (by repeat (first | (with_reducible first | exact HB.out | apply below_alloc | apply pw_below_drewN | apply below_drew1) | exact HB.out))) : w.heap.size ≤ gb154)); have n3_ := Aside0.mk ((by rw [hg]; exact (below_size (by repeat (first | (with_reducible first | exact HB.out | apply below_alloc | apply pw_below_drewN | apply below_drew1) | exact HB.out))) : w.heap.size ≤ gb154)); clear HB; have HB := n0_; have BK154 := n1_; have GW154 := n2_; have GE154 := n3_; clear n0_ n1_ n2_ n3_; clear hb hbox hg; have hcz14_0 : w13.cell? ⟨gb154, 0, none⟩ = some (.int .i64 a0_0) := (blk_cell BK154.out 0).trans rfl; have hcz14_1 : w13.cell? ⟨gb154, 1, none⟩ = some (.int .i64 a0_1) := (blk_cell BK154.out 1).trans rfl; have hcz14_2 : w13.cell? ⟨gb154, 2, none⟩ = some (.int .i64 a0_2) := (blk_cell BK154.out 2).trans rfl; have hcz14_3 : w13.cell? ⟨gb154, 3, none⟩ = some (.int .i64 a0_3) := (blk_cell BK154.out 3).trans rfl; have hcz14_4 : w13.cell? ⟨gb154, 4, none⟩ = some (.int .i64 a0_4) := (blk_cell BK154.out 4).trans rfl; have hfz14_0 := blk_frozen BK154.out 0; have hfz14_1 := blk_frozen BK154.out 1; have hfz14_2 := blk_frozen BK154.out 2; have hfz14_3 := blk_frozen BK154.out 3; have hfz14_4 := blk_frozen BK154.out 4) | ((with_reducible refine gate_callee (f := 151) rfl ?_); refine goesL_ (some 5) rfl rfl Try.func151 (by kernel_rfl) rfl #[.int .i64 a0_0] rfl (by (try simp only [List.map_toArray, List.map_cons, List.map_nil]); first | done | rfl | (simp only [List.length_drop, List.length_take]; rfl)) ?_; (with_reducible refine (triremeref04_one.calls a0_0 true _ A2.out).mono ?_); rintro e w' ⟨rfl, ⟨nd, rfl⟩⟩; refine ⟨_, rfl, ?_⟩) | (go_at_call 151; (with_reducible refine (triremeref04_one.calls a0_1 true _ A4.out).mono ?_); rintro e w' ⟨rfl, ⟨nd, rfl⟩⟩) | (go_at_call 151; (with_reducible refine (triremeref04_one.calls a0_2 true _ A6.out).mono ?_); rintro e w' ⟨rfl, ⟨nd, rfl⟩⟩) | (go_at_call 151; (with_reducible refine (triremeref04_one.calls a0_3 false _ A8.out).mono ?_); rintro e w' ⟨rfl, ⟨nd, rfl⟩⟩))
          go_ret
          exact ⟨by first | rfl | (simp [errW_none, errW_some] <;> rfl) | (simp [*, errW_none, errW_some] <;> rfl), by repeat (first | (with_reducible first | exact HB.out | apply below_alloc | apply pw_below_drewN | apply below_drew1 | refine below_set ?_ GE154.out) | exact HB.out)⟩
      · replace c7 := Bool.eq_false_iff.mpr c7
        subst c7
        have H1 : (some false) = some r := by rw [if_neg (show ¬ (false = true) by decide)] at H; exact H
        clear H
        have H := H1
        clear H1
        obtain rfl := Option.some.inj H
        go_enter Try.func141, Try.ntmps141
        go_wp2_with (first | ((with_reducible refine gate_dst (N := 1) rfl ?_); refine box_event ?hg (N := 1) ?hd (cs := #[.int .i64 a0_0, .int .i64 a0_1, .int .i64 a0_2, .int .i64 a0_3, .int .i64 a0_4]) (t := 70) ?hr ?_; (case hd => rfl); (case hg => rfl); (case hr => first | (go_simp; done) | (go_simp; rfl)); intro gb154 hg w15 hbox hb; have n0_ := Aside0.mk (below_step (by repeat (first | (with_reducible first | exact HB.out | apply below_alloc | apply pw_below_drewN | apply below_drew1) | exact HB.out)) hb); have n1_ := Aside0.mk (hbox); have n2_ := Aside0.mk ((by rw [hg]; exact (below_size (by repeat (first | (with_reducible first | exact HB.out | apply below_alloc | apply pw_below_drewN | apply below_drew1) | exact HB.out))) : w.heap.size ≤ gb154)); have n3_ := Aside0.mk ((by rw [hg]; exact (below_size (by repeat (first | (with_reducible first | exact HB.out | apply below_alloc | apply pw_below_drewN | apply below_drew1) | exact HB.out))) : w.heap.size ≤ gb154)); clear HB; have HB := n0_; have BK154 := n1_; have GW154 := n2_; have GE154 := n3_; clear n0_ n1_ n2_ n3_; clear hb hbox hg; have hcz16_0 : w15.cell? ⟨gb154, 0, none⟩ = some (.int .i64 a0_0) := (blk_cell BK154.out 0).trans rfl; have hcz16_1 : w15.cell? ⟨gb154, 1, none⟩ = some (.int .i64 a0_1) := (blk_cell BK154.out 1).trans rfl; have hcz16_2 : w15.cell? ⟨gb154, 2, none⟩ = some (.int .i64 a0_2) := (blk_cell BK154.out 2).trans rfl; have hcz16_3 : w15.cell? ⟨gb154, 3, none⟩ = some (.int .i64 a0_3) := (blk_cell BK154.out 3).trans rfl; have hcz16_4 : w15.cell? ⟨gb154, 4, none⟩ = some (.int .i64 a0_4) := (blk_cell BK154.out 4).trans rfl; have hfz16_0 := blk_frozen BK154.out 0; have hfz16_1 := blk_frozen BK154.out 1; have hfz16_2 := blk_frozen BK154.out 2; have hfz16_3 := blk_frozen BK154.out 3; have hfz16_4 := blk_frozen BK154.out 4) | ((with_reducible refine gate_callee (f := 151) rfl ?_); refine goesL_ (some 5) rfl rfl Try.func151 (by kernel_rfl) rfl #[.int .i64 a0_0] rfl (by (try simp only [List.map_toArray, List.map_cons, List.map_nil]); first | done | rfl | (simp only [List.length_drop, List.length_take]; rfl)) ?_; (with_reducible refine (triremeref04_one.calls a0_0 true _ A2.out).mono ?_); rintro e w' ⟨rfl, ⟨nd, rfl⟩⟩; refine ⟨_, rfl, ?_⟩) | (go_at_call 151; (with_reducible refine (triremeref04_one.calls a0_1 true _ A4.out).mono ?_); rintro e w' ⟨rfl, ⟨nd, rfl⟩⟩) | (go_at_call 151; (with_reducible refine (triremeref04_one.calls a0_2 false _ A6.out).mono ?_); rintro e w' ⟨rfl, ⟨nd, rfl⟩⟩))
        go_ret
        exact ⟨by first | rfl | (simp [errW_none, errW_some] <;> rfl) | (simp [*, errW_none, errW_some] <;> rfl), by repeat (first | (with_reducible first | exact HB.out | apply below_alloc | apply pw_below_drewN | apply below_drew1 | refine below_set ?_ GE154.out) | exact HB.out)⟩
    · replace c5 := Bool.eq_false_iff.mpr c5
      subst c5
      have H1 : (some false) = some r := by rw [if_neg (show ¬ (false = true) by decide)] at H; exact H
      clear H
      have H := H1
      clear H1
      obtain rfl := Option.some.inj H
      go_enter Try.func141, Try.ntmps141
      go_wp2_with (first | ((with_reducible refine gate_dst (N := 1) rfl ?_); refine box_event ?hg (N := 1) ?hd (cs := #[.int .i64 a0_0, .int .i64 a0_1, .int .i64 a0_2, .int .i64 a0_3, .int .i64 a0_4]) (t := 70) ?hr ?_; (case hd => rfl); (case hg => rfl); (case hr => first | (go_simp; done) | (go_simp; rfl)); intro gb154 hg w17 hbox hb; have n0_ := Aside0.mk (below_step (by repeat (first | (with_reducible first | exact HB.out | apply below_alloc | apply pw_below_drewN | apply below_drew1) | exact HB.out)) hb); have n1_ := Aside0.mk (hbox); have n2_ := Aside0.mk ((by rw [hg]; exact (below_size (by repeat (first | (with_reducible first | exact HB.out | apply below_alloc | apply pw_below_drewN | apply below_drew1) | exact HB.out))) : w.heap.size ≤ gb154)); have n3_ := Aside0.mk ((by rw [hg]; exact (below_size (by repeat (first | (with_reducible first | exact HB.out | apply below_alloc | apply pw_below_drewN | apply below_drew1) | exact HB.out))) : w.heap.size ≤ gb154)); clear HB; have HB := n0_; have BK154 := n1_; have GW154 := n2_; have GE154 := n3_; clear n0_ n1_ n2_ n3_; clear hb hbox hg; have hcz18_0 : w17.cell? ⟨gb154, 0, none⟩ = some (.int .i64 a0_0) := (blk_cell BK154.out 0).trans rfl; have hcz18_1 : w17.cell? ⟨gb154, 1, none⟩ = some (.int .i64 a0_1) := (blk_cell BK154.out 1).trans rfl; have hcz18_2 : w17.cell? ⟨gb154, 2, none⟩ = some (.int .i64 a0_2) := (blk_cell BK154.out 2).trans rfl; have hcz18_3 : w17.cell? ⟨gb154, 3, none⟩ = some (.int .i64 a0_3) := (blk_cell BK154.out 3).trans rfl; have hcz18_4 : w17.cell? ⟨gb154, 4, none⟩ = some (.int .i64 a0_4) := (blk_cell BK154.out 4).trans rfl; have hfz18_0 := blk_frozen BK154.out 0; have hfz18_1 := blk_frozen BK154.out 1; have hfz18_2 := blk_frozen BK154.out 2; have hfz18_3 := blk_frozen BK154.out 3; have hfz18_4 := blk_frozen BK154.out 4) | ((with_reducible refine gate_callee (f := 151) rfl ?_); refine goesL_ (some 5) rfl rfl Try.func151 (by kernel_rfl) rfl #[.int .i64 a0_0] rfl (by (try simp only [List.map_toArray, List.map_cons, List.map_nil]); first | done | rfl | (simp only [List.length_drop, List.length_take]; rfl)) ?_; (with_reducible refine (triremeref04_one.calls a0_0 true _ A2.out).mono ?_); rintro e w' ⟨rfl, ⟨nd, rfl⟩⟩; refine ⟨_, rfl, ?_⟩) | (go_at_call 151; (with_reducible refine (triremeref04_one.calls a0_1 false _ A4.out).mono ?_); rintro e w' ⟨rfl, ⟨nd, rfl⟩⟩))
      go_ret
      exact ⟨by first | rfl | (simp [errW_none, errW_some] <;> rfl) | (simp [*, errW_none, errW_some] <;> rfl), by repeat (first | (with_reducible first | exact HB.out | apply below_alloc | apply pw_below_drewN | apply below_drew1 | refine below_set ?_ GE154.out) | exact HB.out)⟩
  · replace c3 := Bool.eq_false_iff.mpr c3
    subst c3
    have H1 : (some false) = some r := by rw [if_neg (show ¬ (false = true) by decide)] at H; exact H
    clear H
    have H := H1
    clear H1
    obtain rfl := Option.some.inj H
    go_enter Try.func141, Try.ntmps141
    go_wp2_with (first | ((with_reducible refine gate_dst (N := 1) rfl ?_); refine box_event ?hg (N := 1) ?hd (cs := #[.int .i64 a0_0, .int .i64 a0_1, .int .i64 a0_2, .int .i64 a0_3, .int .i64 a0_4]) (t := 70) ?hr ?_; (case hd => rfl); (case hg => rfl); (case hr => first | (go_simp; done) | (go_simp; rfl)); intro gb154 hg w19 hbox hb; have n0_ := Aside0.mk (below_step (by repeat (first | (with_reducible first | exact HB.out | apply below_alloc | apply pw_below_drewN | apply below_drew1) | exact HB.out)) hb); have n1_ := Aside0.mk (hbox); have n2_ := Aside0.mk ((by rw [hg]; exact (below_size (by repeat (first | (with_reducible first | exact HB.out | apply below_alloc | apply pw_below_drewN | apply below_drew1) | exact HB.out))) : w.heap.size ≤ gb154)); have n3_ := Aside0.mk ((by rw [hg]; exact (below_size (by repeat (first | (with_reducible first | exact HB.out | apply below_alloc | apply pw_below_drewN | apply below_drew1) | exact HB.out))) : w.heap.size ≤ gb154)); clear HB; have HB := n0_; have BK154 := n1_; have GW154 := n2_; have GE154 := n3_; clear n0_ n1_ n2_ n3_; clear hb hbox hg; have hcz20_0 : w19.cell? ⟨gb154, 0, none⟩ = some (.int .i64 a0_0) := (blk_cell BK154.out 0).trans rfl; have hcz20_1 : w19.cell? ⟨gb154, 1, none⟩ = some (.int .i64 a0_1) := (blk_cell BK154.out 1).trans rfl; have hcz20_2 : w19.cell? ⟨gb154, 2, none⟩ = some (.int .i64 a0_2) := (blk_cell BK154.out 2).trans rfl; have hcz20_3 : w19.cell? ⟨gb154, 3, none⟩ = some (.int .i64 a0_3) := (blk_cell BK154.out 3).trans rfl; have hcz20_4 : w19.cell? ⟨gb154, 4, none⟩ = some (.int .i64 a0_4) := (blk_cell BK154.out 4).trans rfl; have hfz20_0 := blk_frozen BK154.out 0; have hfz20_1 := blk_frozen BK154.out 1; have hfz20_2 := blk_frozen BK154.out 2; have hfz20_3 := blk_frozen BK154.out 3; have hfz20_4 := blk_frozen BK154.out 4) | ((with_reducible refine gate_callee (f := 151) rfl ?_); refine goesL_ (some 5) rfl rfl Try.func151 (by kernel_rfl) rfl #[.int .i64 a0_0] rfl (by (try simp only [List.map_toArray, List.map_cons, List.map_nil]); first | done | rfl | (simp only [List.length_drop, List.length_take]; rfl)) ?_; (with_reducible refine (triremeref04_one.calls a0_0 false _ A2.out).mono ?_); rintro e w' ⟨rfl, ⟨nd, rfl⟩⟩; refine ⟨_, rfl, ?_⟩))
    go_ret
    exact ⟨by first | rfl | (simp [errW_none, errW_some] <;> rfl) | (simp [*, errW_none, errW_some] <;> rfl), by repeat (first | (with_reducible first | exact HB.out | apply below_alloc | apply pw_below_drewN | apply below_drew1 | refine below_set ?_ GE154.out) | exact HB.out)⟩

/-! ### triremeref06_maybe: function 152 -/
def triremeref06_maybe.f (k : Nat) (a0 : ByteArray) : Option (Bool) := if a0.toList = ([] : List UInt8) then (some true) else ((triremeref01_Word.f k a0).bind fun t160 => (some t160))
theorem triremeref06_maybe.mono : ∀ a0 k, LeO (triremeref06_maybe.f k a0) (triremeref06_maybe.f (k + 1) a0) := by
  intro a0 k
  unfold triremeref06_maybe.f
  repeat' first
      | (with_reducible exact triremeref01_Word.mono _ _)
      | (with_reducible exact LeO.refl _)
      | (with_reducible exact LeO.none _)
      | (with_reducible refine LeO.ite ?_ ?_)
      | (with_reducible refine LeO.bind ?_ (fun _ => ?_))
      | exact triremeref01_Word.mono _ _
      | exact LeO.none _
      | refine LeO.ite ?_ ?_
      | refine LeO.bind ?_ (fun _ => ?_)
set_option maxHeartbeats 8000000 in
set_option maxRecDepth 100000 in
theorem triremeref06_maybe.calls (k : Nat) (a0 : ByteArray) (r : Bool) (w : World) (h : triremeref06_maybe.f k a0 = some r) :
    Calls Try.prog 152 #[.string a0] w fun e w' => e = .returned (.bool r) ∧ Drawn0 w w' := by
  have H : (if a0.toList = ([] : List UInt8) then (some true) else ((triremeref01_Word.f k a0).bind fun t160 => (some t160))) = some r := h
  clear h
  by_cases c2 : a0.toList = ([] : List UInt8)
  · rw [if_pos c2] at H
    have c2b0 : (a0.toList == ([] : List UInt8)) = true := beq_iff_eq.mpr c2
    have c2b1 : (a0.toList != ([] : List UInt8)) = false := bne_eq_false_iff_eq.mpr c2
    clear c2
    obtain rfl := Option.some.inj H
    go_enter Try.func152, Try.ntmps152
    go_wp2
    go_ret
    exact ⟨by first | rfl | (simp; done) | (simp [*]; done), by repeat (first | exact Drawn0.refl _ | apply Drawn0.step)⟩
  · rw [if_neg c2] at H
    have c2b0 : (a0.toList == ([] : List UInt8)) = false := beq_eq_false_iff_ne.mpr c2
    have c2b1 : (a0.toList != ([] : List UInt8)) = true := bne_iff_ne.mpr c2
    replace H := Option.bind_eq_some_iff.mp H
    obtain ⟨t160, A30, H⟩ := H
    replace H : (some t160) = some r := H
    have A3 := Aside0.mk A30
    clear A30
    obtain rfl := Option.some.inj H
    go_enter Try.func152, Try.ntmps152
    go_wp2_with (first | (go_at_call 112; (with_reducible refine (triremeref01_Word.calls k a0 t160 _ A3.out).mono ?_); rintro e w' ⟨rfl, ⟨nd, rfl⟩⟩))
    go_ret
    exact ⟨by first | rfl | (simp; done) | (simp [*]; done), by repeat (first | exact Drawn0.refl _ | apply Drawn0.step)⟩

/-! ### triremeref06_effect: function 153 -/
def triremeref06_effect.f (a0 : Int) : Option (Bool) := if a0 ≥ 1 then (some (decide (a0 ≤ 3))) else (some false)
set_option maxHeartbeats 8000000 in
set_option maxRecDepth 100000 in
theorem triremeref06_effect.calls (a0 : Int) (r : Bool) (w : World) (h : triremeref06_effect.f a0 = some r) :
    Calls Try.prog 153 #[.int .i64 a0] w fun e w' => e = .returned (.bool r) ∧ Drawn0 w w' := by
  have H : (if a0 ≥ 1 then (some (decide (a0 ≤ 3))) else (some false)) = some r := h
  clear h
  by_cases c2 : a0 ≥ 1
  · rw [if_pos c2] at H
    have c2b0 : decide (1 ≤ a0) = true := decide_eq_true c2
    clear c2
    obtain rfl := Option.some.inj H
    go_enter Try.func153, Try.ntmps153
    go_wp2
    go_ret
    exact ⟨by first | rfl | (simp; done) | (simp [*]; done), by repeat (first | exact Drawn0.refl _ | apply Drawn0.step)⟩
  · rw [if_neg c2] at H
    have c2b0 : decide (1 ≤ a0) = false := decide_eq_false c2
    clear c2
    obtain rfl := Option.some.inj H
    go_enter Try.func153, Try.ntmps153
    go_wp2
    go_ret
    exact ⟨by first | rfl | (simp; done) | (simp [*]; done), by repeat (first | exact Drawn0.refl _ | apply Drawn0.step)⟩

/-! ### triremeref06_Right: function 142 -/
mutual
def triremeref06_Right.l0 : Nat → List (S157) → Int → Option (Bool)
  | 0, _, _ => none
  | k + 1, x0, x3 => if x3 < (x0.length : Int) then (if 0 ≤ x3 then ((triremeref01_Word.f k ((rd_T157 x0 x3).f0)).bind fun t162 => (if t162 = true then ((triremeref06_maybe.f k ((rd_T157 x0 x3).f1)).bind fun t164 => (if t164 = true then ((triremeref06_effect.f ((rd_T157 x0 x3).f2)).bind fun t166 => (triremeref06_Right.j1 k x0 x3 (!t166))) else (triremeref06_Right.j1 k x0 x3 true))) else (triremeref06_Right.j1 k x0 x3 true))) else (none)) else (some true)
def triremeref06_Right.j1 : Nat → List (S157) → Int → Bool → Option (Bool)
  | 0, _, _, _ => none
  | k + 1, x0, x3, x38 => if x38 = true then (some false) else (triremeref06_Right.l1 k x0 x3 0)
def triremeref06_Right.l1 : Nat → List (S157) → Int → Int → Option (Bool)
  | 0, _, _, _ => none
  | k + 1, x0, x3, x4 => if x4 < x3 then (if 0 ≤ x4 then (if x4 < (x0.length : Int) then (if 0 ≤ x3 then (if x3 < (x0.length : Int) then (if ((rd_T157 x0 x4).f0).toList = ((rd_T157 x0 x3).f0).toList then (if ((rd_T157 x0 x4).f2) = ((rd_T157 x0 x3).f2) then (some false) else (triremeref06_Right.l1 k x0 x3 (wrap64 (x4 + 1)))) else (triremeref06_Right.l1 k x0 x3 (wrap64 (x4 + 1)))) else (none)) else (none)) else (none)) else (none)) else (triremeref06_Right.l0 k x0 (wrap64 (x3 + 1)))
end
def triremeref06_Right.f (k : Nat) (l0 : List (S157)) : Option (Bool) := if (l0.length : Int) > 16 then (some false) else (triremeref06_Right.l0 k l0 0)
theorem triremeref06_Right.mono_l : ∀ k, (∀ y0 y1, LeO (triremeref06_Right.l0 k y0 y1) (triremeref06_Right.l0 (k + 1) y0 y1)) ∧ (∀ y0 y1 y2, LeO (triremeref06_Right.j1 k y0 y1 y2) (triremeref06_Right.j1 (k + 1) y0 y1 y2)) ∧ (∀ y0 y1 y2, LeO (triremeref06_Right.l1 k y0 y1 y2) (triremeref06_Right.l1 (k + 1) y0 y1 y2))
  | 0 => ⟨fun _ _ r h => by simp [triremeref06_Right.l0] at h, fun _ _ _ r h => by simp [triremeref06_Right.j1] at h, fun _ _ _ r h => by simp [triremeref06_Right.l1] at h⟩
  | k + 1 => by
    obtain ⟨ih0, ih1, ih2⟩ := triremeref06_Right.mono_l k
    refine ⟨?_, ?_, ?_⟩
    · intro y0 y1
      unfold triremeref06_Right.l0
      repeat' first
      | (with_reducible exact ih0 _ _)
      | (with_reducible exact ih1 _ _ _)
      | (with_reducible exact ih2 _ _ _)
      | (with_reducible exact triremeref01_Word.mono _ _)
      | (with_reducible exact triremeref06_maybe.mono _ _)
      | (with_reducible exact LeO.refl _)
      | (with_reducible exact LeO.none _)
      | (with_reducible refine LeO.ite ?_ ?_)
      | (with_reducible refine LeO.bind ?_ (fun _ => ?_))
      | exact ih0 _ _
      | exact ih1 _ _ _
      | exact ih2 _ _ _
      | exact triremeref01_Word.mono _ _
      | exact triremeref06_maybe.mono _ _
      | exact LeO.none _
      | refine LeO.ite ?_ ?_
      | refine LeO.bind ?_ (fun _ => ?_)
    · intro y0 y1 y2
      unfold triremeref06_Right.j1
      repeat' first
      | (with_reducible exact ih0 _ _)
      | (with_reducible exact ih1 _ _ _)
      | (with_reducible exact ih2 _ _ _)
      | (with_reducible exact triremeref01_Word.mono _ _)
      | (with_reducible exact triremeref06_maybe.mono _ _)
      | (with_reducible exact LeO.refl _)
      | (with_reducible exact LeO.none _)
      | (with_reducible refine LeO.ite ?_ ?_)
      | (with_reducible refine LeO.bind ?_ (fun _ => ?_))
      | exact ih0 _ _
      | exact ih1 _ _ _
      | exact ih2 _ _ _
      | exact triremeref01_Word.mono _ _
      | exact triremeref06_maybe.mono _ _
      | exact LeO.none _
      | refine LeO.ite ?_ ?_
      | refine LeO.bind ?_ (fun _ => ?_)
    · intro y0 y1 y2
      unfold triremeref06_Right.l1
      repeat' first
      | (with_reducible exact ih0 _ _)
      | (with_reducible exact ih1 _ _ _)
      | (with_reducible exact ih2 _ _ _)
      | (with_reducible exact triremeref01_Word.mono _ _)
      | (with_reducible exact triremeref06_maybe.mono _ _)
      | (with_reducible exact LeO.refl _)
      | (with_reducible exact LeO.none _)
      | (with_reducible refine LeO.ite ?_ ?_)
      | (with_reducible refine LeO.bind ?_ (fun _ => ?_))
      | exact ih0 _ _
      | exact ih1 _ _ _
      | exact ih2 _ _ _
      | exact triremeref01_Word.mono _ _
      | exact triremeref06_maybe.mono _ _
      | exact LeO.none _
      | refine LeO.ite ?_ ?_
      | refine LeO.bind ?_ (fun _ => ?_)
theorem triremeref06_Right.mono : ∀ a0 k, LeO (triremeref06_Right.f k a0) (triremeref06_Right.f (k + 1) a0) := by
  intro a0 k
  obtain ⟨ih0, ih1, ih2⟩ := triremeref06_Right.mono_l k
  unfold triremeref06_Right.f
  repeat' first
      | (with_reducible exact ih0 _ _)
      | (with_reducible exact ih1 _ _ _)
      | (with_reducible exact ih2 _ _ _)
      | (with_reducible exact triremeref01_Word.mono _ _)
      | (with_reducible exact triremeref06_maybe.mono _ _)
      | (with_reducible exact LeO.refl _)
      | (with_reducible exact LeO.none _)
      | (with_reducible refine LeO.ite ?_ ?_)
      | (with_reducible refine LeO.bind ?_ (fun _ => ?_))
      | exact ih0 _ _
      | exact ih1 _ _ _
      | exact ih2 _ _ _
      | exact triremeref01_Word.mono _ _
      | exact triremeref06_maybe.mono _ _
      | exact LeO.none _
      | refine LeO.ite ?_ ?_
      | refine LeO.bind ?_ (fun _ => ?_)
set_option maxHeartbeats 8000000 in
set_option maxRecDepth 100000 in
theorem triremeref06_Right.calls (k : Nat) (A0 : Option Addr) (c0 : Nat) (l0 : List (S157)) (r : Bool) (w : World) (hr0 : Kd.C k157 w A0 l0.length l0) (hc0 : l0.length ≤ c0) (h : triremeref06_Right.f k l0 = some r) :
    Calls Try.prog 142 #[.slice A0 l0.length c0] w fun e w' => e = .returned (.bool r) ∧ Drawn0 w w' := by
  have HR0 := Aside0.mk hr0
  have HC0 := Aside0.mk hc0
  clear hr0 hc0
  have H : (if (l0.length : Int) > 16 then (some false) else (triremeref06_Right.l0 k l0 0)) = some r := h
  clear h
  by_cases c2 : (l0.length : Int) > 16
  · rw [if_pos c2] at H
    have c2b0 : decide (16 < (l0.length : Int)) = true := decide_eq_true c2
    have c2b1 : decide (16 < l0.length) = true := decide_eq_true (by omega)
    clear c2
    obtain rfl := Option.some.inj H
    go_enter Try.func142, Try.ntmps142
    go_wp2
    repeat (go_quiet (fail); try go_wp2)
    go_ret
    exact ⟨by first | rfl | (simp; done) | (simp [*]; done), by repeat (first | exact Drawn0.refl _ | apply Drawn0.step)⟩
  · rw [if_neg c2] at H
    have c2b0 : decide (16 < (l0.length : Int)) = false := decide_eq_false c2
    have c2b1 : decide (16 < l0.length) = false := decide_eq_false (by omega)
    clear c2
    have H' := Aside0.mk H
    clear H
    go_enter Try.func142, Try.ntmps142
    go_wp2
    repeat (go_quiet (fail); try go_wp2)
    go_loopg [3] k (fun kq v3 w' => ∃ (x3_1 : Int), v3 = .int .i64 x3_1 ∧ Aside0 (triremeref06_Right.l0 kq l0 x3_1 = some r) ∧ Aside0 (kq ≤ k) ∧ Drawn0 w w')
    case atStart => exact ⟨(0), (by first | rfl | (simp; done) | (simp [*]; done)), H', ⟨Nat.le_refl _⟩, by repeat (first | exact Drawn0.refl _ | apply Drawn0.step)⟩
    case round =>
      clear H'
      try clear c1
      try clear c2
      try clear c2b0
      try clear c2b1
      try clear p2
      obtain ⟨x3_1, rfl, HA, HK1, ⟨m1, rfl⟩⟩ := hrel
      cases gk with
      | zero => exact absurd HA.out (by simp [triremeref06_Right.l0])
      | succ k1 =>
        have H := HA.out
        clear HA
        simp only [triremeref06_Right.l0] at H
        by_cases c3 : x3_1 < (l0.length : Int)
        · rw [if_pos c3] at H
          have c3b0 : decide (x3_1 < (l0.length : Int)) = true := decide_eq_true c3
          clear c3
          have HC4 := Aside0.mk H
          clear H
          go_upto_region 6 with (fail)
          repeat (go_quiet (fail); go_upto_region 6 with (fail))
          go_cut [38] (fun v38 wc => ∃ (kq : Nat) (x38_3 : Bool), v38 = .bool x38_3 ∧ Aside0 (triremeref06_Right.j1 kq l0 x3_1 x38_3 = some r) ∧ Aside0 (kq ≤ k1) ∧ Drawn0 w wc)
          case first =>
            have H := HC4.out
            clear HC4
            by_cases c5 : 0 ≤ x3_1
            · rw [if_pos c5] at H
              have c5b0 : decide (0 ≤ x3_1) = true := decide_eq_true c5
              clear c5
              (first | rw [c5b0] | (simp only [i64_w, i32_w]; rw [c5b0]) | skip)
              replace H := Option.bind_eq_some_iff.mp H
              obtain ⟨t162, A60, H⟩ := H
              replace H : (if t162 = true then ((triremeref06_maybe.f k1 ((rd_T157 l0 x3_1).f1)).bind fun t164 => (if t164 = true then ((triremeref06_effect.f ((rd_T157 l0 x3_1).f2)).bind fun t166 => (triremeref06_Right.j1 k1 l0 x3_1 (!t166))) else (triremeref06_Right.j1 k1 l0 x3_1 true))) else (triremeref06_Right.j1 k1 l0 x3_1 true)) = some r := H
              have A6 := Aside0.mk A60
              clear A60
              by_cases c7 : t162 = true
              · subst c7
                have H1 : ((triremeref06_maybe.f k1 ((rd_T157 l0 x3_1).f1)).bind fun t164 => (if t164 = true then ((triremeref06_effect.f ((rd_T157 l0 x3_1).f2)).bind fun t166 => (triremeref06_Right.j1 k1 l0 x3_1 (!t166))) else (triremeref06_Right.j1 k1 l0 x3_1 true))) = some r := by rw [if_pos rfl] at H; exact H
                clear H
                have H := H1
                clear H1
                replace H := Option.bind_eq_some_iff.mp H
                obtain ⟨t164, A80, H⟩ := H
                replace H : (if t164 = true then ((triremeref06_effect.f ((rd_T157 l0 x3_1).f2)).bind fun t166 => (triremeref06_Right.j1 k1 l0 x3_1 (!t166))) else (triremeref06_Right.j1 k1 l0 x3_1 true)) = some r := H
                have A8 := Aside0.mk A80
                clear A80
                by_cases c9 : t164 = true
                · subst c9
                  have H1 : ((triremeref06_effect.f ((rd_T157 l0 x3_1).f2)).bind fun t166 => (triremeref06_Right.j1 k1 l0 x3_1 (!t166))) = some r := by rw [if_pos rfl] at H; exact H
                  clear H
                  have H := H1
                  clear H1
                  replace H := Option.bind_eq_some_iff.mp H
                  obtain ⟨t166, A100, H⟩ := H
                  replace H : (triremeref06_Right.j1 k1 l0 x3_1 (!t166)) = some r := H
                  have A10 := Aside0.mk A100
                  clear A100
                  have H' := Aside0.mk H
                  clear H
                  have p161 : 0 ≤ (x3_1 : Int) := of_decide_eq_true (by first | (with_reducible assumption) | assumption)
                  have q161 : x3_1 < (l0.length : Int) := of_decide_eq_true (by first | (with_reducible assumption) | assumption)
                  obtain ⟨ad161, e161, hx161_0, hx161_1, hx161_2⟩ := at_T157 HR0.out x3_1 p161 q161
                  cases e161
                  replace p161 := eq_true p161
                  replace q161 := eq_true q161
                  go_wp2_with (first | (go_at_call 112; (with_reducible refine (triremeref01_Word.calls k1 ((rd_T157 l0 x3_1).f0) true _ A6.out).mono ?_); rintro e w' ⟨rfl, ⟨nd, rfl⟩⟩; (try first | exact ⟨rfl, _, World.drewN_drewN _ _ _⟩ | exact ⟨rfl, _, Eq.trans (World.drewN_drewN _ _ _) (congrArg (World.drewN _) (Nat.add_assoc _ _ _))⟩); have p163 : 0 ≤ (x3_1 : Int) := of_decide_eq_true (by first | (with_reducible assumption) | assumption); have q163 : x3_1 < (l0.length : Int) := of_decide_eq_true (by first | (with_reducible assumption) | assumption); obtain ⟨ad163, e163, hx163_0, hx163_1, hx163_2⟩ := at_T157 HR0.out x3_1 p163 q163; obtain rfl : ad161 = ad163 := (by injection e163); replace p163 := eq_true p163; replace q163 := eq_true q163) | (go_at_call 152; (with_reducible refine (triremeref06_maybe.calls k1 ((rd_T157 l0 x3_1).f1) true _ A8.out).mono ?_); rintro e w' ⟨rfl, ⟨nd, rfl⟩⟩; (try first | exact ⟨rfl, _, World.drewN_drewN _ _ _⟩ | exact ⟨rfl, _, Eq.trans (World.drewN_drewN _ _ _) (congrArg (World.drewN _) (Nat.add_assoc _ _ _))⟩); have p165 : 0 ≤ (x3_1 : Int) := of_decide_eq_true (by first | (with_reducible assumption) | assumption); have q165 : x3_1 < (l0.length : Int) := of_decide_eq_true (by first | (with_reducible assumption) | assumption); obtain ⟨ad165, e165, hx165_0, hx165_1, hx165_2⟩ := at_T157 HR0.out x3_1 p165 q165; obtain rfl : ad161 = ad165 := (by injection e165); replace p165 := eq_true p165; replace q165 := eq_true q165) | (go_at_call 153; (with_reducible refine (triremeref06_effect.calls ((rd_T157 l0 x3_1).f2) t166 _ A10.out).mono ?_); rintro e w' ⟨rfl, ⟨nd, rfl⟩⟩; (try first | exact ⟨rfl, _, World.drewN_drewN _ _ _⟩ | exact ⟨rfl, _, Eq.trans (World.drewN_drewN _ _ _) (congrArg (World.drewN _) (Nat.add_assoc _ _ _))⟩)))
                  repeat (go_quiet (first | (go_at_call 112; (with_reducible refine (triremeref01_Word.calls k1 ((rd_T157 l0 x3_1).f0) true _ A6.out).mono ?_); rintro e w' ⟨rfl, ⟨nd, rfl⟩⟩; (try first | exact ⟨rfl, _, World.drewN_drewN _ _ _⟩ | exact ⟨rfl, _, Eq.trans (World.drewN_drewN _ _ _) (congrArg (World.drewN _) (Nat.add_assoc _ _ _))⟩); have p163 : 0 ≤ (x3_1 : Int) := of_decide_eq_true (by first | (with_reducible assumption) | assumption); have q163 : x3_1 < (l0.length : Int) := of_decide_eq_true (by first | (with_reducible assumption) | assumption); obtain ⟨ad163, e163, hx163_0, hx163_1, hx163_2⟩ := at_T157 HR0.out x3_1 p163 q163; obtain rfl : ad161 = ad163 := (by injection e163); replace p163 := eq_true p163; replace q163 := eq_true q163) | (go_at_call 152; (with_reducible refine (triremeref06_maybe.calls k1 ((rd_T157 l0 x3_1).f1) true _ A8.out).mono ?_); rintro e w' ⟨rfl, ⟨nd, rfl⟩⟩; (try first | exact ⟨rfl, _, World.drewN_drewN _ _ _⟩ | exact ⟨rfl, _, Eq.trans (World.drewN_drewN _ _ _) (congrArg (World.drewN _) (Nat.add_assoc _ _ _))⟩); have p165 : 0 ≤ (x3_1 : Int) := of_decide_eq_true (by first | (with_reducible assumption) | assumption); have q165 : x3_1 < (l0.length : Int) := of_decide_eq_true (by first | (with_reducible assumption) | assumption); obtain ⟨ad165, e165, hx165_0, hx165_1, hx165_2⟩ := at_T157 HR0.out x3_1 p165 q165; obtain rfl : ad161 = ad165 := (by injection e165); replace p165 := eq_true p165; replace q165 := eq_true q165) | (go_at_call 153; (with_reducible refine (triremeref06_effect.calls ((rd_T157 l0 x3_1).f2) t166 _ A10.out).mono ?_); rintro e w' ⟨rfl, ⟨nd, rfl⟩⟩; (try first | exact ⟨rfl, _, World.drewN_drewN _ _ _⟩ | exact ⟨rfl, _, Eq.trans (World.drewN_drewN _ _ _) (congrArg (World.drewN _) (Nat.add_assoc _ _ _))⟩))); try go_wp2_with (first | (go_at_call 112; (with_reducible refine (triremeref01_Word.calls k1 ((rd_T157 l0 x3_1).f0) true _ A6.out).mono ?_); rintro e w' ⟨rfl, ⟨nd, rfl⟩⟩; (try first | exact ⟨rfl, _, World.drewN_drewN _ _ _⟩ | exact ⟨rfl, _, Eq.trans (World.drewN_drewN _ _ _) (congrArg (World.drewN _) (Nat.add_assoc _ _ _))⟩); have p163 : 0 ≤ (x3_1 : Int) := of_decide_eq_true (by first | (with_reducible assumption) | assumption); have q163 : x3_1 < (l0.length : Int) := of_decide_eq_true (by first | (with_reducible assumption) | assumption); obtain ⟨ad163, e163, hx163_0, hx163_1, hx163_2⟩ := at_T157 HR0.out x3_1 p163 q163; obtain rfl : ad161 = ad163 := (by injection e163); replace p163 := eq_true p163; replace q163 := eq_true q163) | (go_at_call 152; (with_reducible refine (triremeref06_maybe.calls k1 ((rd_T157 l0 x3_1).f1) true _ A8.out).mono ?_); rintro e w' ⟨rfl, ⟨nd, rfl⟩⟩; (try first | exact ⟨rfl, _, World.drewN_drewN _ _ _⟩ | exact ⟨rfl, _, Eq.trans (World.drewN_drewN _ _ _) (congrArg (World.drewN _) (Nat.add_assoc _ _ _))⟩); have p165 : 0 ≤ (x3_1 : Int) := of_decide_eq_true (by first | (with_reducible assumption) | assumption); have q165 : x3_1 < (l0.length : Int) := of_decide_eq_true (by first | (with_reducible assumption) | assumption); obtain ⟨ad165, e165, hx165_0, hx165_1, hx165_2⟩ := at_T157 HR0.out x3_1 p165 q165; obtain rfl : ad161 = ad165 := (by injection e165); replace p165 := eq_true p165; replace q165 := eq_true q165) | (go_at_call 153; (with_reducible refine (triremeref06_effect.calls ((rd_T157 l0 x3_1).f2) t166 _ A10.out).mono ?_); rintro e w' ⟨rfl, ⟨nd, rfl⟩⟩; (try first | exact ⟨rfl, _, World.drewN_drewN _ _ _⟩ | exact ⟨rfl, _, Eq.trans (World.drewN_drewN _ _ _) (congrArg (World.drewN _) (Nat.add_assoc _ _ _))⟩))))
                  go_meet
                  case rel => exact ⟨_, (!t166), (by first | rfl | (simp; done) | (simp [*]; done)), H', ⟨by have := HK1.out; first | omega | exact Nat.le_refl _⟩, by repeat (first | exact Drawn0.refl _ | apply Drawn0.step)⟩
                · replace c9 := Bool.eq_false_iff.mpr c9
                  subst c9
                  have H1 : (triremeref06_Right.j1 k1 l0 x3_1 true) = some r := by rw [if_neg (show ¬ (false = true) by decide)] at H; exact H
                  clear H
                  have H := H1
                  clear H1
                  have H' := Aside0.mk H
                  clear H
                  have p161 : 0 ≤ (x3_1 : Int) := of_decide_eq_true (by first | (with_reducible assumption) | assumption)
                  have q161 : x3_1 < (l0.length : Int) := of_decide_eq_true (by first | (with_reducible assumption) | assumption)
                  obtain ⟨ad161, e161, hx161_0, hx161_1, hx161_2⟩ := at_T157 HR0.out x3_1 p161 q161
                  cases e161
                  replace p161 := eq_true p161
                  replace q161 := eq_true q161
                  go_wp2_with (first | (go_at_call 112; (with_reducible refine (triremeref01_Word.calls k1 ((rd_T157 l0 x3_1).f0) true _ A6.out).mono ?_); rintro e w' ⟨rfl, ⟨nd, rfl⟩⟩; (try first | exact ⟨rfl, _, World.drewN_drewN _ _ _⟩ | exact ⟨rfl, _, Eq.trans (World.drewN_drewN _ _ _) (congrArg (World.drewN _) (Nat.add_assoc _ _ _))⟩); have p163 : 0 ≤ (x3_1 : Int) := of_decide_eq_true (by first | (with_reducible assumption) | assumption); have q163 : x3_1 < (l0.length : Int) := of_decide_eq_true (by first | (with_reducible assumption) | assumption); obtain ⟨ad163, e163, hx163_0, hx163_1, hx163_2⟩ := at_T157 HR0.out x3_1 p163 q163; obtain rfl : ad161 = ad163 := (by injection e163); replace p163 := eq_true p163; replace q163 := eq_true q163) | (go_at_call 152; (with_reducible refine (triremeref06_maybe.calls k1 ((rd_T157 l0 x3_1).f1) false _ A8.out).mono ?_); rintro e w' ⟨rfl, ⟨nd, rfl⟩⟩; (try first | exact ⟨rfl, _, World.drewN_drewN _ _ _⟩ | exact ⟨rfl, _, Eq.trans (World.drewN_drewN _ _ _) (congrArg (World.drewN _) (Nat.add_assoc _ _ _))⟩)))
                  repeat (go_quiet (first | (go_at_call 112; (with_reducible refine (triremeref01_Word.calls k1 ((rd_T157 l0 x3_1).f0) true _ A6.out).mono ?_); rintro e w' ⟨rfl, ⟨nd, rfl⟩⟩; (try first | exact ⟨rfl, _, World.drewN_drewN _ _ _⟩ | exact ⟨rfl, _, Eq.trans (World.drewN_drewN _ _ _) (congrArg (World.drewN _) (Nat.add_assoc _ _ _))⟩); have p163 : 0 ≤ (x3_1 : Int) := of_decide_eq_true (by first | (with_reducible assumption) | assumption); have q163 : x3_1 < (l0.length : Int) := of_decide_eq_true (by first | (with_reducible assumption) | assumption); obtain ⟨ad163, e163, hx163_0, hx163_1, hx163_2⟩ := at_T157 HR0.out x3_1 p163 q163; obtain rfl : ad161 = ad163 := (by injection e163); replace p163 := eq_true p163; replace q163 := eq_true q163) | (go_at_call 152; (with_reducible refine (triremeref06_maybe.calls k1 ((rd_T157 l0 x3_1).f1) false _ A8.out).mono ?_); rintro e w' ⟨rfl, ⟨nd, rfl⟩⟩; (try first | exact ⟨rfl, _, World.drewN_drewN _ _ _⟩ | exact ⟨rfl, _, Eq.trans (World.drewN_drewN _ _ _) (congrArg (World.drewN _) (Nat.add_assoc _ _ _))⟩))); try go_wp2_with (first | (go_at_call 112; (with_reducible refine (triremeref01_Word.calls k1 ((rd_T157 l0 x3_1).f0) true _ A6.out).mono ?_); rintro e w' ⟨rfl, ⟨nd, rfl⟩⟩; (try first | exact ⟨rfl, _, World.drewN_drewN _ _ _⟩ | exact ⟨rfl, _, Eq.trans (World.drewN_drewN _ _ _) (congrArg (World.drewN _) (Nat.add_assoc _ _ _))⟩); have p163 : 0 ≤ (x3_1 : Int) := of_decide_eq_true (by first | (with_reducible assumption) | assumption); have q163 : x3_1 < (l0.length : Int) := of_decide_eq_true (by first | (with_reducible assumption) | assumption); obtain ⟨ad163, e163, hx163_0, hx163_1, hx163_2⟩ := at_T157 HR0.out x3_1 p163 q163; obtain rfl : ad161 = ad163 := (by injection e163); replace p163 := eq_true p163; replace q163 := eq_true q163) | (go_at_call 152; (with_reducible refine (triremeref06_maybe.calls k1 ((rd_T157 l0 x3_1).f1) false _ A8.out).mono ?_); rintro e w' ⟨rfl, ⟨nd, rfl⟩⟩; (try first | exact ⟨rfl, _, World.drewN_drewN _ _ _⟩ | exact ⟨rfl, _, Eq.trans (World.drewN_drewN _ _ _) (congrArg (World.drewN _) (Nat.add_assoc _ _ _))⟩))))
                  go_meet
                  case rel => exact ⟨_, (true), (by first | rfl | (simp; done) | (simp [*]; done)), H', ⟨by have := HK1.out; first | omega | exact Nat.le_refl _⟩, by repeat (first | exact Drawn0.refl _ | apply Drawn0.step)⟩
              · replace c7 := Bool.eq_false_iff.mpr c7
                subst c7
                have H1 : (triremeref06_Right.j1 k1 l0 x3_1 true) = some r := by rw [if_neg (show ¬ (false = true) by decide)] at H; exact H
                clear H
                have H := H1
                clear H1
                have H' := Aside0.mk H
                clear H
                have p161 : 0 ≤ (x3_1 : Int) := of_decide_eq_true (by first | (with_reducible assumption) | assumption)
                have q161 : x3_1 < (l0.length : Int) := of_decide_eq_true (by first | (with_reducible assumption) | assumption)
                obtain ⟨ad161, e161, hx161_0, hx161_1, hx161_2⟩ := at_T157 HR0.out x3_1 p161 q161
                cases e161
                replace p161 := eq_true p161
                replace q161 := eq_true q161
                go_wp2_with (first | (go_at_call 112; (with_reducible refine (triremeref01_Word.calls k1 ((rd_T157 l0 x3_1).f0) false _ A6.out).mono ?_); rintro e w' ⟨rfl, ⟨nd, rfl⟩⟩; (try first | exact ⟨rfl, _, World.drewN_drewN _ _ _⟩ | exact ⟨rfl, _, Eq.trans (World.drewN_drewN _ _ _) (congrArg (World.drewN _) (Nat.add_assoc _ _ _))⟩)))
                repeat (go_quiet (first | (go_at_call 112; (with_reducible refine (triremeref01_Word.calls k1 ((rd_T157 l0 x3_1).f0) false _ A6.out).mono ?_); rintro e w' ⟨rfl, ⟨nd, rfl⟩⟩; (try first | exact ⟨rfl, _, World.drewN_drewN _ _ _⟩ | exact ⟨rfl, _, Eq.trans (World.drewN_drewN _ _ _) (congrArg (World.drewN _) (Nat.add_assoc _ _ _))⟩))); try go_wp2_with (first | (go_at_call 112; (with_reducible refine (triremeref01_Word.calls k1 ((rd_T157 l0 x3_1).f0) false _ A6.out).mono ?_); rintro e w' ⟨rfl, ⟨nd, rfl⟩⟩; (try first | exact ⟨rfl, _, World.drewN_drewN _ _ _⟩ | exact ⟨rfl, _, Eq.trans (World.drewN_drewN _ _ _) (congrArg (World.drewN _) (Nat.add_assoc _ _ _))⟩))))
                go_meet
                case rel => exact ⟨_, (true), (by first | rfl | (simp; done) | (simp [*]; done)), H', ⟨by have := HK1.out; first | omega | exact Nat.le_refl _⟩, by repeat (first | exact Drawn0.refl _ | apply Drawn0.step)⟩
            · rw [if_neg c5] at H
              exact absurd H (by simp)
          case rest =>
            clear HC4
            try clear c1
            try clear p1
            try clear q1
            try clear hx1
            try clear c2
            try clear c2b0
            try clear c2b1
            try clear p2
            try clear c3
            try clear c3b0
            try clear c5
            try clear c5b0
            try clear c7
            try clear c9
            try clear hx161_0
            try clear hx161_1
            try clear hx161_2
            try clear hx163_0
            try clear hx163_1
            try clear hx163_2
            try clear hx165_0
            try clear hx165_1
            try clear hx165_2
            try clear p161
            try clear p163
            try clear p165
            try clear p2
            try clear q161
            try clear q163
            try clear q165
            obtain ⟨kq, x38_3, rfl, HA, HJ3, ⟨mc3, rfl⟩⟩ := hcut
            cases kq with
            | zero => exact absurd HA.out (by simp [triremeref06_Right.j1])
            | succ kj3 =>
              have H := HA.out
              clear HA
              simp only [triremeref06_Right.j1] at H
              by_cases c11 : x38_3 = true
              · subst c11
                have H1 : (some false) = some r := by rw [if_pos rfl] at H; exact H
                clear H
                have H := H1
                clear H1
                obtain rfl := Option.some.inj H
                go_wp2
                repeat (go_quiet (fail); try go_wp2)
                go_ret
                exact ⟨by first | rfl | (simp; done) | (simp [*]; done), by repeat (first | exact Drawn0.refl _ | apply Drawn0.step)⟩
              · replace c11 := Bool.eq_false_iff.mpr c11
                subst c11
                have H1 : (triremeref06_Right.l1 kj3 l0 x3_1 0) = some r := by rw [if_neg (show ¬ (false = true) by decide)] at H; exact H
                clear H
                have H := H1
                clear H1
                have H' := Aside0.mk H
                clear H
                go_wp2
                repeat (go_quiet (fail); try go_wp2)
                go_loopg [4] kj3 (fun kq v4 w' => ∃ (x4_3 : Int), v4 = .int .i64 x4_3 ∧ Aside0 (triremeref06_Right.l1 kq l0 x3_1 x4_3 = some r) ∧ Aside0 (kq ≤ kj3) ∧ Drawn0 w w')
                case atStart => exact ⟨(0), (by first | rfl | (simp; done) | (simp [*]; done)), H', ⟨Nat.le_refl _⟩, by repeat (first | exact Drawn0.refl _ | apply Drawn0.step)⟩
                case round =>
                  clear H'
                  try clear c1
                  try clear p1
                  try clear q1
                  try clear hx1
                  try clear c2
                  try clear c2b0
                  try clear c2b1
                  try clear p2
                  try clear c3
                  try clear c3b0
                  try clear c5
                  try clear c5b0
                  try clear c7
                  try clear c9
                  try clear c11
                  try clear hx161_0
                  try clear hx161_1
                  try clear hx161_2
                  try clear hx163_0
                  try clear hx163_1
                  try clear hx163_2
                  try clear hx165_0
                  try clear hx165_1
                  try clear hx165_2
                  try clear p1
                  try clear p161
                  try clear p163
                  try clear p165
                  try clear p2
                  try clear q1
                  try clear q161
                  try clear q163
                  try clear q165
                  obtain ⟨x4_3, rfl, HA, HK3, ⟨m3, rfl⟩⟩ := hrel
                  cases gk with
                  | zero => exact absurd HA.out (by simp [triremeref06_Right.l1])
                  | succ k3 =>
                    have H := HA.out
                    clear HA
                    simp only [triremeref06_Right.l1] at H
                    by_cases c12 : x4_3 < x3_1
                    · rw [if_pos c12] at H
                      have c12b0 : decide (x4_3 < x3_1) = true := decide_eq_true c12
                      clear c12
                      by_cases c13 : 0 ≤ x4_3
                      · rw [if_pos c13] at H
                        have c13b0 : decide (0 ≤ x4_3) = true := decide_eq_true c13
                        clear c13
                        by_cases c14 : x4_3 < (l0.length : Int)
                        · rw [if_pos c14] at H
                          have c14b0 : decide (x4_3 < (l0.length : Int)) = true := decide_eq_true c14
                          clear c14
                          by_cases c15 : 0 ≤ x3_1
                          · rw [if_pos c15] at H
                            have c15b0 : decide (0 ≤ x3_1) = true := decide_eq_true c15
                            clear c15
                            by_cases c16 : x3_1 < (l0.length : Int)
                            · rw [if_pos c16] at H
                              have c16b0 : decide (x3_1 < (l0.length : Int)) = true := decide_eq_true c16
                              clear c16
                              by_cases c17 : ((rd_T157 l0 x4_3).f0).toList = ((rd_T157 l0 x3_1).f0).toList
                              · rw [if_pos c17] at H
                                have c17b0 : (((rd_T157 l0 x4_3).f0).toList == ((rd_T157 l0 x3_1).f0).toList) = true := beq_iff_eq.mpr c17
                                have c17b1 : (((rd_T157 l0 x4_3).f0).toList != ((rd_T157 l0 x3_1).f0).toList) = false := bne_eq_false_iff_eq.mpr c17
                                clear c17
                                by_cases c18 : ((rd_T157 l0 x4_3).f2) = ((rd_T157 l0 x3_1).f2)
                                · rw [if_pos c18] at H
                                  have c18b0 : (((rd_T157 l0 x4_3).f2) == ((rd_T157 l0 x3_1).f2)) = true := beq_iff_eq.mpr c18
                                  have c18b1 : (((rd_T157 l0 x4_3).f2) != ((rd_T157 l0 x3_1).f2)) = false := bne_eq_false_iff_eq.mpr c18
                                  clear c18
                                  obtain rfl := Option.some.inj H
                                  have p167 : 0 ≤ (x4_3 : Int) := of_decide_eq_true (by first | (with_reducible assumption) | assumption)
                                  have q167 : x4_3 < (l0.length : Int) := of_decide_eq_true (by first | (with_reducible assumption) | assumption)
                                  obtain ⟨ad167, e167, hx167_0, hx167_1, hx167_2⟩ := at_T157 HR0.out x4_3 p167 q167
                                  cases e167
                                  replace p167 := eq_true p167
                                  replace q167 := eq_true q167
                                  have p168 : 0 ≤ (x3_1 : Int) := of_decide_eq_true (by first | (with_reducible assumption) | assumption)
                                  have q168 : x3_1 < (l0.length : Int) := of_decide_eq_true (by first | (with_reducible assumption) | assumption)
                                  obtain ⟨ad168, e168, hx168_0, hx168_1, hx168_2⟩ := at_T157 HR0.out x3_1 p168 q168
                                  obtain rfl : ad167 = ad168 := (by injection e168)
                                  replace p168 := eq_true p168
                                  replace q168 := eq_true q168
                                  have p169 : 0 ≤ (x4_3 : Int) := of_decide_eq_true (by first | (with_reducible assumption) | assumption)
                                  have q169 : x4_3 < (l0.length : Int) := of_decide_eq_true (by first | (with_reducible assumption) | assumption)
                                  obtain ⟨ad169, e169, hx169_0, hx169_1, hx169_2⟩ := at_T157 HR0.out x4_3 p169 q169
                                  obtain rfl : ad167 = ad169 := (by injection e169)
                                  replace p169 := eq_true p169
                                  replace q169 := eq_true q169
                                  have p170 : 0 ≤ (x3_1 : Int) := of_decide_eq_true (by first | (with_reducible assumption) | assumption)
                                  have q170 : x3_1 < (l0.length : Int) := of_decide_eq_true (by first | (with_reducible assumption) | assumption)
                                  obtain ⟨ad170, e170, hx170_0, hx170_1, hx170_2⟩ := at_T157 HR0.out x3_1 p170 q170
                                  obtain rfl : ad167 = ad170 := (by injection e170)
                                  replace p170 := eq_true p170
                                  replace q170 := eq_true q170
                                  go_wp2
                                  repeat (go_quiet (fail); try go_wp2)
                                  go_ret
                                  exact ⟨by first | rfl | (simp; done) | (simp [*]; done), by repeat (first | exact Drawn0.refl _ | apply Drawn0.step)⟩
                                · rw [if_neg c18] at H
                                  have c18b0 : (((rd_T157 l0 x4_3).f2) == ((rd_T157 l0 x3_1).f2)) = false := beq_eq_false_iff_ne.mpr c18
                                  have c18b1 : (((rd_T157 l0 x4_3).f2) != ((rd_T157 l0 x3_1).f2)) = true := bne_iff_ne.mpr c18
                                  have H' := Aside0.mk H
                                  clear H
                                  have p167 : 0 ≤ (x4_3 : Int) := of_decide_eq_true (by first | (with_reducible assumption) | assumption)
                                  have q167 : x4_3 < (l0.length : Int) := of_decide_eq_true (by first | (with_reducible assumption) | assumption)
                                  obtain ⟨ad167, e167, hx167_0, hx167_1, hx167_2⟩ := at_T157 HR0.out x4_3 p167 q167
                                  cases e167
                                  replace p167 := eq_true p167
                                  replace q167 := eq_true q167
                                  have p168 : 0 ≤ (x3_1 : Int) := of_decide_eq_true (by first | (with_reducible assumption) | assumption)
                                  have q168 : x3_1 < (l0.length : Int) := of_decide_eq_true (by first | (with_reducible assumption) | assumption)
                                  obtain ⟨ad168, e168, hx168_0, hx168_1, hx168_2⟩ := at_T157 HR0.out x3_1 p168 q168
                                  obtain rfl : ad167 = ad168 := (by injection e168)
                                  replace p168 := eq_true p168
                                  replace q168 := eq_true q168
                                  have p169 : 0 ≤ (x4_3 : Int) := of_decide_eq_true (by first | (with_reducible assumption) | assumption)
                                  have q169 : x4_3 < (l0.length : Int) := of_decide_eq_true (by first | (with_reducible assumption) | assumption)
                                  obtain ⟨ad169, e169, hx169_0, hx169_1, hx169_2⟩ := at_T157 HR0.out x4_3 p169 q169
                                  obtain rfl : ad167 = ad169 := (by injection e169)
                                  replace p169 := eq_true p169
                                  replace q169 := eq_true q169
                                  have p170 : 0 ≤ (x3_1 : Int) := of_decide_eq_true (by first | (with_reducible assumption) | assumption)
                                  have q170 : x3_1 < (l0.length : Int) := of_decide_eq_true (by first | (with_reducible assumption) | assumption)
                                  obtain ⟨ad170, e170, hx170_0, hx170_1, hx170_2⟩ := at_T157 HR0.out x3_1 p170 q170
                                  obtain rfl : ad167 = ad170 := (by injection e170)
                                  replace p170 := eq_true p170
                                  replace q170 := eq_true q170
                                  go_wp2
                                  repeat (go_quiet (fail); try go_wp2)
                                  go_roundg k3
                                  case measure => have := HK1.out; have := HJ3.out; have := HK3.out; omega
                                  case rel => exact ⟨(wrap64 (x4_3 + 1)), (by first | rfl | (simp; done) | (simp [*]; done)), H', ⟨by have := HK1.out; have := HJ3.out; have := HK3.out; omega⟩, by repeat (first | exact Drawn0.refl _ | apply Drawn0.step)⟩
                              · rw [if_neg c17] at H
                                have c17b0 : (((rd_T157 l0 x4_3).f0).toList == ((rd_T157 l0 x3_1).f0).toList) = false := beq_eq_false_iff_ne.mpr c17
                                have c17b1 : (((rd_T157 l0 x4_3).f0).toList != ((rd_T157 l0 x3_1).f0).toList) = true := bne_iff_ne.mpr c17
                                have H' := Aside0.mk H
                                clear H
                                have p167 : 0 ≤ (x4_3 : Int) := of_decide_eq_true (by first | (with_reducible assumption) | assumption)
                                have q167 : x4_3 < (l0.length : Int) := of_decide_eq_true (by first | (with_reducible assumption) | assumption)
                                obtain ⟨ad167, e167, hx167_0, hx167_1, hx167_2⟩ := at_T157 HR0.out x4_3 p167 q167
                                cases e167
                                replace p167 := eq_true p167
                                replace q167 := eq_true q167
                                have p168 : 0 ≤ (x3_1 : Int) := of_decide_eq_true (by first | (with_reducible assumption) | assumption)
                                have q168 : x3_1 < (l0.length : Int) := of_decide_eq_true (by first | (with_reducible assumption) | assumption)
                                obtain ⟨ad168, e168, hx168_0, hx168_1, hx168_2⟩ := at_T157 HR0.out x3_1 p168 q168
                                obtain rfl : ad167 = ad168 := (by injection e168)
                                replace p168 := eq_true p168
                                replace q168 := eq_true q168
                                go_wp2
                                repeat (go_quiet (fail); try go_wp2)
                                go_roundg k3
                                case measure => have := HK1.out; have := HJ3.out; have := HK3.out; omega
                                case rel => exact ⟨(wrap64 (x4_3 + 1)), (by first | rfl | (simp; done) | (simp [*]; done)), H', ⟨by have := HK1.out; have := HJ3.out; have := HK3.out; omega⟩, by repeat (first | exact Drawn0.refl _ | apply Drawn0.step)⟩
                            · rw [if_neg c16] at H
                              exact absurd H (by simp)
                          · rw [if_neg c15] at H
                            exact absurd H (by simp)
                        · rw [if_neg c14] at H
                          exact absurd H (by simp)
                      · rw [if_neg c13] at H
                        exact absurd H (by simp)
                    · rw [if_neg c12] at H
                      have c12b0 : decide (x4_3 < x3_1) = false := decide_eq_false c12
                      clear c12
                      have H' := Aside0.mk H
                      clear H
                      go_wp2
                      repeat (go_quiet (fail); try go_wp2)
                      go_roundg k3
                      case measure => have := HK1.out; have := HJ3.out; have := HK3.out; omega
                      case rel => exact ⟨(wrap64 (x3_1 + 1)), (by first | rfl | (simp; done) | (simp [*]; done)), H', ⟨by have := HK1.out; have := HJ3.out; have := HK3.out; omega⟩, by repeat (first | exact Drawn0.refl _ | apply Drawn0.step)⟩
        · rw [if_neg c3] at H
          have c3b0 : decide (x3_1 < (l0.length : Int)) = false := decide_eq_false c3
          clear c3
          obtain rfl := Option.some.inj H
          go_wp2
          repeat (go_quiet (fail); try go_wp2)
          go_ret
          exact ⟨by first | rfl | (simp; done) | (simp [*]; done), by repeat (first | exact Drawn0.refl _ | apply Drawn0.step)⟩

/-! ### triremeref07_RightMachine: function 126 -/
def triremeref07_RightMachine.f (k : Nat) (a0_0 : ByteArray) (a0_1 : ByteArray) (a0_2 : Int) (a0_3 : Int) (a0_4 : Int) (a0_5 : Int) (a0_6 : Int) (l0_7 : List (S83)) (l0_8 : List (S157)) (a0_9 : Bool) : Option (Bool) := (triremeref07_maybe.f k a0_0).bind fun t172 => (if t172 = true then ((triremeref07_maybe.f k a0_1).bind fun t173 => (if t173 = true then ((triremeref04_Right.f a0_2 a0_3 a0_4 a0_5 a0_6).bind fun t174 => (if t174 = true then ((triremeref05_Right.f k l0_7).bind fun t175 => (if t175 = true then ((triremeref06_Right.f k l0_8).bind fun t176 => (some t176)) else (some false))) else (some false))) else (some false))) else (some false))
theorem triremeref07_RightMachine.mono : ∀ a0 a1 a2 a3 a4 a5 a6 a7 a8 a9 k, LeO (triremeref07_RightMachine.f k a0 a1 a2 a3 a4 a5 a6 a7 a8 a9) (triremeref07_RightMachine.f (k + 1) a0 a1 a2 a3 a4 a5 a6 a7 a8 a9) := by
  intro a0 a1 a2 a3 a4 a5 a6 a7 a8 a9 k
  unfold triremeref07_RightMachine.f
  repeat' first
      | (with_reducible exact triremeref05_Right.mono _ _)
      | (with_reducible exact triremeref06_Right.mono _ _)
      | (with_reducible exact triremeref07_maybe.mono _ _)
      | (with_reducible exact LeO.refl _)
      | (with_reducible exact LeO.none _)
      | (with_reducible refine LeO.ite ?_ ?_)
      | (with_reducible refine LeO.bind ?_ (fun _ => ?_))
      | exact triremeref05_Right.mono _ _
      | exact triremeref06_Right.mono _ _
      | exact triremeref07_maybe.mono _ _
      | exact LeO.none _
      | refine LeO.ite ?_ ?_
      | refine LeO.bind ?_ (fun _ => ?_)
set_option maxHeartbeats 8000000 in
set_option maxRecDepth 100000 in
theorem triremeref07_RightMachine.calls (k : Nat) (a0_0 : ByteArray) (a0_1 : ByteArray) (a0_2 : Int) (a0_3 : Int) (a0_4 : Int) (a0_5 : Int) (a0_6 : Int) (A0_7 : Option Addr) (c0_7 : Nat) (l0_7 : List (S83)) (A0_8 : Option Addr) (c0_8 : Nat) (l0_8 : List (S157)) (a0_9 : Bool) (r : Bool) (w : World) (hr0_7 : Kd.C k83 w A0_7 l0_7.length l0_7) (hc0_7 : l0_7.length ≤ c0_7) (hr0_8 : Kd.C k157 w A0_8 l0_8.length l0_8) (hc0_8 : l0_8.length ≤ c0_8) (h : triremeref07_RightMachine.f k a0_0 a0_1 a0_2 a0_3 a0_4 a0_5 a0_6 l0_7 l0_8 a0_9 = some r) :
    Calls Try.prog 126 #[.agg #[.string a0_0, .string a0_1, .int .i64 a0_2, .int .i64 a0_3, .int .i64 a0_4, .int .i64 a0_5, .int .i64 a0_6, .slice A0_7 l0_7.length c0_7, .slice A0_8 l0_8.length c0_8, .bool a0_9]] w fun e w' => e = .returned (.bool r) ∧ Below w.heap.size w w' := by
  have hu74 := Try.underlying74
  have hu70 := Try.underlying70
  have HR0_7 := Aside0.mk hr0_7
  have HC0_7 := Aside0.mk hc0_7
  clear hr0_7 hc0_7
  have HR0_8 := Aside0.mk hr0_8
  have HC0_8 := Aside0.mk hc0_8
  clear hr0_8 hc0_8
  have HB := Aside0.mk (Below.refl w.heap.size w)
  have H : ((triremeref07_maybe.f k a0_0).bind fun t172 => (if t172 = true then ((triremeref07_maybe.f k a0_1).bind fun t173 => (if t173 = true then ((triremeref04_Right.f a0_2 a0_3 a0_4 a0_5 a0_6).bind fun t174 => (if t174 = true then ((triremeref05_Right.f k l0_7).bind fun t175 => (if t175 = true then ((triremeref06_Right.f k l0_8).bind fun t176 => (some t176)) else (some false))) else (some false))) else (some false))) else (some false))) = some r := h
  clear h
  replace H := Option.bind_eq_some_iff.mp H
  obtain ⟨t172, A20, H⟩ := H
  replace H : (if t172 = true then ((triremeref07_maybe.f k a0_1).bind fun t173 => (if t173 = true then ((triremeref04_Right.f a0_2 a0_3 a0_4 a0_5 a0_6).bind fun t174 => (if t174 = true then ((triremeref05_Right.f k l0_7).bind fun t175 => (if t175 = true then ((triremeref06_Right.f k l0_8).bind fun t176 => (some t176)) else (some false))) else (some false))) else (some false))) else (some false)) = some r := H
  have A2 := Aside0.mk A20
  clear A20
  by_cases c3 : t172 = true
  · subst c3
    have H1 : ((triremeref07_maybe.f k a0_1).bind fun t173 => (if t173 = true then ((triremeref04_Right.f a0_2 a0_3 a0_4 a0_5 a0_6).bind fun t174 => (if t174 = true then ((triremeref05_Right.f k l0_7).bind fun t175 => (if t175 = true then ((triremeref06_Right.f k l0_8).bind fun t176 => (some t176)) else (some false))) else (some false))) else (some false))) = some r := by rw [if_pos rfl] at H; exact H
    clear H
    have H := H1
    clear H1
    replace H := Option.bind_eq_some_iff.mp H
    obtain ⟨t173, A40, H⟩ := H
    replace H : (if t173 = true then ((triremeref04_Right.f a0_2 a0_3 a0_4 a0_5 a0_6).bind fun t174 => (if t174 = true then ((triremeref05_Right.f k l0_7).bind fun t175 => (if t175 = true then ((triremeref06_Right.f k l0_8).bind fun t176 => (some t176)) else (some false))) else (some false))) else (some false)) = some r := H
    have A4 := Aside0.mk A40
    clear A40
    by_cases c5 : t173 = true
    · subst c5
      have H1 : ((triremeref04_Right.f a0_2 a0_3 a0_4 a0_5 a0_6).bind fun t174 => (if t174 = true then ((triremeref05_Right.f k l0_7).bind fun t175 => (if t175 = true then ((triremeref06_Right.f k l0_8).bind fun t176 => (some t176)) else (some false))) else (some false))) = some r := by rw [if_pos rfl] at H; exact H
      clear H
      have H := H1
      clear H1
      replace H := Option.bind_eq_some_iff.mp H
      obtain ⟨t174, A60, H⟩ := H
      replace H : (if t174 = true then ((triremeref05_Right.f k l0_7).bind fun t175 => (if t175 = true then ((triremeref06_Right.f k l0_8).bind fun t176 => (some t176)) else (some false))) else (some false)) = some r := H
      have A6 := Aside0.mk A60
      clear A60
      by_cases c7 : t174 = true
      · subst c7
        have H1 : ((triremeref05_Right.f k l0_7).bind fun t175 => (if t175 = true then ((triremeref06_Right.f k l0_8).bind fun t176 => (some t176)) else (some false))) = some r := by rw [if_pos rfl] at H; exact H
        clear H
        have H := H1
        clear H1
        replace H := Option.bind_eq_some_iff.mp H
        obtain ⟨t175, A80, H⟩ := H
        replace H : (if t175 = true then ((triremeref06_Right.f k l0_8).bind fun t176 => (some t176)) else (some false)) = some r := H
        have A8 := Aside0.mk A80
        clear A80
        by_cases c9 : t175 = true
        · subst c9
          have H1 : ((triremeref06_Right.f k l0_8).bind fun t176 => (some t176)) = some r := by rw [if_pos rfl] at H; exact H
          clear H
          have H := H1
          clear H1
          replace H := Option.bind_eq_some_iff.mp H
          obtain ⟨t176, A100, H⟩ := H
          replace H : (some t176) = some r := H
          have A10 := Aside0.mk A100
          clear A100
          obtain rfl := Option.some.inj H
          go_enter Try.func126, Try.ntmps126
          go_wp2_with (first | ((with_reducible refine gate_dst (N := 1) rfl ?_); refine box_event ?hg (N := 1) ?hd (cs := #[.string a0_0, .string a0_1, .int .i64 a0_2, .int .i64 a0_3, .int .i64 a0_4, .int .i64 a0_5, .int .i64 a0_6, .slice A0_7 l0_7.length c0_7, .slice A0_8 l0_8.length c0_8, .bool a0_9]) (t := 74) ?hr ?_; (case hd => rfl); (case hg => rfl); (case hr => first | (go_simp; done) | (go_simp; rfl)); intro gb171 hg w11 hbox hb; have n0_ := Aside0.mk (below_step (by repeat (first | (with_reducible first | exact HB.out | apply below_alloc | apply pw_below_drewN | apply below_drew1) | exact HB.out)) hb); have n1_ := Aside0.mk (hbox); have n2_ := Aside0.mk ((by rw [hg]; exact (below_size (by repeat (first | (with_reducible first | exact HB.out | apply below_alloc | apply pw_below_drewN | apply below_drew1) | exact HB.out))) : w.heap.size ≤ gb171)); have n3_ := Aside0.mk ((by rw [hg]; exact (below_size (by repeat (first | (with_reducible first | exact HB.out | apply below_alloc | apply pw_below_drewN | apply below_drew1) | exact HB.out))) : w.heap.size ≤ gb171)); clear HB; have HB := n0_; have BK171 := n1_; have GW171 := n2_; have GE171 := n3_; clear n0_ n1_ n2_ n3_; clear hb hbox hg; have hcz12_0 : w11.cell? ⟨gb171, 0, none⟩ = some (.string a0_0) := (blk_cell BK171.out 0).trans rfl; have hcz12_1 : w11.cell? ⟨gb171, 1, none⟩ = some (.string a0_1) := (blk_cell BK171.out 1).trans rfl; have hcz12_2 : w11.cell? ⟨gb171, 2, none⟩ = some (.int .i64 a0_2) := (blk_cell BK171.out 2).trans rfl; have hcz12_3 : w11.cell? ⟨gb171, 3, none⟩ = some (.int .i64 a0_3) := (blk_cell BK171.out 3).trans rfl; have hcz12_4 : w11.cell? ⟨gb171, 4, none⟩ = some (.int .i64 a0_4) := (blk_cell BK171.out 4).trans rfl; have hcz12_5 : w11.cell? ⟨gb171, 5, none⟩ = some (.int .i64 a0_5) := (blk_cell BK171.out 5).trans rfl; have hcz12_6 : w11.cell? ⟨gb171, 6, none⟩ = some (.int .i64 a0_6) := (blk_cell BK171.out 6).trans rfl; have hcz12_7 : w11.cell? ⟨gb171, 7, none⟩ = some (.slice A0_7 l0_7.length c0_7) := (blk_cell BK171.out 7).trans rfl; have hcz12_8 : w11.cell? ⟨gb171, 8, none⟩ = some (.slice A0_8 l0_8.length c0_8) := (blk_cell BK171.out 8).trans rfl; have hcz12_9 : w11.cell? ⟨gb171, 9, none⟩ = some (.bool a0_9) := (blk_cell BK171.out 9).trans rfl; have hfz12_0 := blk_frozen BK171.out 0; have hfz12_1 := blk_frozen BK171.out 1; have hfz12_2 := blk_frozen BK171.out 2; have hfz12_3 := blk_frozen BK171.out 3; have hfz12_4 := blk_frozen BK171.out 4; have hfz12_5 := blk_frozen BK171.out 5; have hfz12_6 := blk_frozen BK171.out 6; have hfz12_7 := blk_frozen BK171.out 7; have hfz12_8 := blk_frozen BK171.out 8; have hfz12_9 := blk_frozen BK171.out 9) | ((with_reducible refine gate_callee (f := 140) rfl ?_); refine goesL_ (some 5) rfl rfl Try.func140 (by kernel_rfl) rfl #[.string a0_0] rfl (by (try simp only [List.map_toArray, List.map_cons, List.map_nil]); first | done | rfl | (simp only [List.length_drop, List.length_take]; rfl)) ?_; (with_reducible refine (triremeref07_maybe.calls k a0_0 true _ A2.out).mono ?_); rintro e w' ⟨rfl, ⟨nd, rfl⟩⟩; refine ⟨_, rfl, ?_⟩) | (go_at_call 140; (with_reducible refine (triremeref07_maybe.calls k a0_1 true _ A4.out).mono ?_); rintro e w' ⟨rfl, ⟨nd, rfl⟩⟩) | (go_at_call 141; (with_reducible refine (triremeref04_Right.calls a0_2 a0_3 a0_4 a0_5 a0_6 true _ A6.out).mono ?_); rintro e w13 ⟨rfl, hb⟩; have n0_ := Aside0.mk (blk_below (g := gb171) (o := .cells #[.string a0_0, .string a0_1, .int .i64 a0_2, .int .i64 a0_3, .int .i64 a0_4, .int .i64 a0_5, .int .i64 a0_6, .slice A0_7 l0_7.length c0_7, .slice A0_8 l0_8.length c0_8, .bool a0_9] 74 (0, 0)) (by (with_reducible repeat (first | refine blk_drewN ?_ _ | refine blk_drew ?_ | refine blk_alloc ?_ _)); exact BK171.out) hb); have n1_ := Aside0.mk (below_step (by repeat (first | (with_reducible first | exact HB.out | apply below_alloc | apply pw_below_drewN | apply below_drew1 | refine below_set ?_ GE171.out) | exact HB.out)) hb); clear BK171; clear HB; have BK171 := n0_; have HB := n1_; clear n0_ n1_; (try clear hb); (try clear hb2); (try clear hk); (try clear hi); have hcz14_0 : w13.cell? ⟨gb171, 0, none⟩ = some (.string a0_0) := (blk_cell BK171.out 0).trans rfl; have hcz14_1 : w13.cell? ⟨gb171, 1, none⟩ = some (.string a0_1) := (blk_cell BK171.out 1).trans rfl; have hcz14_2 : w13.cell? ⟨gb171, 2, none⟩ = some (.int .i64 a0_2) := (blk_cell BK171.out 2).trans rfl; have hcz14_3 : w13.cell? ⟨gb171, 3, none⟩ = some (.int .i64 a0_3) := (blk_cell BK171.out 3).trans rfl; have hcz14_4 : w13.cell? ⟨gb171, 4, none⟩ = some (.int .i64 a0_4) := (blk_cell BK171.out 4).trans rfl; have hcz14_5 : w13.cell? ⟨gb171, 5, none⟩ = some (.int .i64 a0_5) := (blk_cell BK171.out 5).trans rfl; have hcz14_6 : w13.cell? ⟨gb171, 6, none⟩ = some (.int .i64 a0_6) := (blk_cell BK171.out 6).trans rfl; have hcz14_7 : w13.cell? ⟨gb171, 7, none⟩ = some (.slice A0_7 l0_7.length c0_7) := (blk_cell BK171.out 7).trans rfl; have hcz14_8 : w13.cell? ⟨gb171, 8, none⟩ = some (.slice A0_8 l0_8.length c0_8) := (blk_cell BK171.out 8).trans rfl; have hcz14_9 : w13.cell? ⟨gb171, 9, none⟩ = some (.bool a0_9) := (blk_cell BK171.out 9).trans rfl; have hfz14_0 := blk_frozen BK171.out 0; have hfz14_1 := blk_frozen BK171.out 1; have hfz14_2 := blk_frozen BK171.out 2; have hfz14_3 := blk_frozen BK171.out 3; have hfz14_4 := blk_frozen BK171.out 4; have hfz14_5 := blk_frozen BK171.out 5; have hfz14_6 := blk_frozen BK171.out 6; have hfz14_7 := blk_frozen BK171.out 7; have hfz14_8 := blk_frozen BK171.out 8; have hfz14_9 := blk_frozen BK171.out 9) | (go_at_call 74; (with_reducible refine (triremeref05_Right.calls k _ _ l0_7 true _ ?side1 ?side2 A8.out).mono ?_); (case side1 => repeat (first | exact (Kd.C_below HR0_7.out HB.out) | (with_reducible refine Kd.C_alloc ?_ _) | (with_reducible refine Kd.C_drewN ?_ _) | (with_reducible refine Kd.C_drew ?_))); (case side2 => exact HC0_7.out); rintro e w15 ⟨rfl, hb⟩; have n0_ := Aside0.mk (blk_below (g := gb171) (o := .cells #[.string a0_0, .string a0_1, .int .i64 a0_2, .int .i64 a0_3, .int .i64 a0_4, .int .i64 a0_5, .int .i64 a0_6, .slice A0_7 l0_7.length c0_7, .slice A0_8 l0_8.length c0_8, .bool a0_9] 74 (0, 0)) (by (with_reducible repeat (first | refine blk_drewN ?_ _ | refine blk_drew ?_ | refine blk_alloc ?_ _)); exact BK171.out) hb); have n1_ := Aside0.mk (below_step (by repeat (first | (with_reducible first | exact HB.out | apply below_alloc | apply pw_below_drewN | apply below_drew1 | refine below_set ?_ GE171.out) | exact HB.out)) hb); clear BK171; clear HB; have BK171 := n0_; have HB := n1_; clear n0_ n1_; (try clear hb); (try clear hb2); (try clear hk); (try clear hi); have hcz16_0 : w15.cell? ⟨gb171, 0, none⟩ = some (.string a0_0) := (blk_cell BK171.out 0).trans rfl; have hcz16_1 : w15.cell? ⟨gb171, 1, none⟩ = some (.string a0_1) := (blk_cell BK171.out 1).trans rfl; have hcz16_2 : w15.cell? ⟨gb171, 2, none⟩ = some (.int .i64 a0_2) := (blk_cell BK171.out 2).trans rfl; have hcz16_3 : w15.cell? ⟨gb171, 3, none⟩ = some (.int .i64 a0_3) := (blk_cell BK171.out 3).trans rfl; have hcz16_4 : w15.cell? ⟨gb171, 4, none⟩ = some (.int .i64 a0_4) := (blk_cell BK171.out 4).trans rfl; have hcz16_5 : w15.cell? ⟨gb171, 5, none⟩ = some (.int .i64 a0_5) := (blk_cell BK171.out 5).trans rfl; have hcz16_6 : w15.cell? ⟨gb171, 6, none⟩ = some (.int .i64 a0_6) := (blk_cell BK171.out 6).trans rfl; have hcz16_7 : w15.cell? ⟨gb171, 7, none⟩ = some (.slice A0_7 l0_7.length c0_7) := (blk_cell BK171.out 7).trans rfl; have hcz16_8 : w15.cell? ⟨gb171, 8, none⟩ = some (.slice A0_8 l0_8.length c0_8) := (blk_cell BK171.out 8).trans rfl; have hcz16_9 : w15.cell? ⟨gb171, 9, none⟩ = some (.bool a0_9) := (blk_cell BK171.out 9).trans rfl; have hfz16_0 := blk_frozen BK171.out 0; have hfz16_1 := blk_frozen BK171.out 1; have hfz16_2 := blk_frozen BK171.out 2; have hfz16_3 := blk_frozen BK171.out 3; have hfz16_4 := blk_frozen BK171.out 4; have hfz16_5 := blk_frozen BK171.out 5; have hfz16_6 := blk_frozen BK171.out 6; have hfz16_7 := blk_frozen BK171.out 7; have hfz16_8 := blk_frozen BK171.out 8; have hfz16_9 := blk_frozen BK171.out 9) | (go_at_call 142; (with_reducible refine (triremeref06_Right.calls k _ _ l0_8 t176 _ ?side1 ?side2 A10.out).mono ?_); (case side1 => repeat (first | exact (Kd.C_below HR0_8.out HB.out) | (with_reducible refine Kd.C_alloc ?_ _) | (with_reducible refine Kd.C_drewN ?_ _) | (with_reducible refine Kd.C_drew ?_))); (case side2 => exact HC0_8.out); rintro e w' ⟨rfl, ⟨nd, rfl⟩⟩))
          go_ret
          exact ⟨by first | rfl | (simp [errW_none, errW_some] <;> rfl) | (simp [*, errW_none, errW_some] <;> rfl), by repeat (first | (with_reducible first | exact HB.out | apply below_alloc | apply pw_below_drewN | apply below_drew1 | refine below_set ?_ GE171.out) | exact HB.out)⟩
        · replace c9 := Bool.eq_false_iff.mpr c9
          subst c9
          have H1 : (some false) = some r := by rw [if_neg (show ¬ (false = true) by decide)] at H; exact H
          clear H
          have H := H1
          clear H1
          obtain rfl := Option.some.inj H
          go_enter Try.func126, Try.ntmps126
          go_wp2_with (first | ((with_reducible refine gate_dst (N := 1) rfl ?_); refine box_event ?hg (N := 1) ?hd (cs := #[.string a0_0, .string a0_1, .int .i64 a0_2, .int .i64 a0_3, .int .i64 a0_4, .int .i64 a0_5, .int .i64 a0_6, .slice A0_7 l0_7.length c0_7, .slice A0_8 l0_8.length c0_8, .bool a0_9]) (t := 74) ?hr ?_; (case hd => rfl); (case hg => rfl); (case hr => first | (go_simp; done) | (go_simp; rfl)); intro gb171 hg w17 hbox hb; have n0_ := Aside0.mk (below_step (by repeat (first | (with_reducible first | exact HB.out | apply below_alloc | apply pw_below_drewN | apply below_drew1) | exact HB.out)) hb); have n1_ := Aside0.mk (hbox); have n2_ := Aside0.mk ((by rw [hg]; exact (below_size (by repeat (first | (with_reducible first | exact HB.out | apply below_alloc | apply pw_below_drewN | apply below_drew1) | exact HB.out))) : w.heap.size ≤ gb171)); have n3_ := Aside0.mk ((by rw [hg]; exact (below_size (by repeat (first | (with_reducible first | exact HB.out | apply below_alloc | apply pw_below_drewN | apply below_drew1) | exact HB.out))) : w.heap.size ≤ gb171)); clear HB; have HB := n0_; have BK171 := n1_; have GW171 := n2_; have GE171 := n3_; clear n0_ n1_ n2_ n3_; clear hb hbox hg; have hcz18_0 : w17.cell? ⟨gb171, 0, none⟩ = some (.string a0_0) := (blk_cell BK171.out 0).trans rfl; have hcz18_1 : w17.cell? ⟨gb171, 1, none⟩ = some (.string a0_1) := (blk_cell BK171.out 1).trans rfl; have hcz18_2 : w17.cell? ⟨gb171, 2, none⟩ = some (.int .i64 a0_2) := (blk_cell BK171.out 2).trans rfl; have hcz18_3 : w17.cell? ⟨gb171, 3, none⟩ = some (.int .i64 a0_3) := (blk_cell BK171.out 3).trans rfl; have hcz18_4 : w17.cell? ⟨gb171, 4, none⟩ = some (.int .i64 a0_4) := (blk_cell BK171.out 4).trans rfl; have hcz18_5 : w17.cell? ⟨gb171, 5, none⟩ = some (.int .i64 a0_5) := (blk_cell BK171.out 5).trans rfl; have hcz18_6 : w17.cell? ⟨gb171, 6, none⟩ = some (.int .i64 a0_6) := (blk_cell BK171.out 6).trans rfl; have hcz18_7 : w17.cell? ⟨gb171, 7, none⟩ = some (.slice A0_7 l0_7.length c0_7) := (blk_cell BK171.out 7).trans rfl; have hcz18_8 : w17.cell? ⟨gb171, 8, none⟩ = some (.slice A0_8 l0_8.length c0_8) := (blk_cell BK171.out 8).trans rfl; have hcz18_9 : w17.cell? ⟨gb171, 9, none⟩ = some (.bool a0_9) := (blk_cell BK171.out 9).trans rfl; have hfz18_0 := blk_frozen BK171.out 0; have hfz18_1 := blk_frozen BK171.out 1; have hfz18_2 := blk_frozen BK171.out 2; have hfz18_3 := blk_frozen BK171.out 3; have hfz18_4 := blk_frozen BK171.out 4; have hfz18_5 := blk_frozen BK171.out 5; have hfz18_6 := blk_frozen BK171.out 6; have hfz18_7 := blk_frozen BK171.out 7; have hfz18_8 := blk_frozen BK171.out 8; have hfz18_9 := blk_frozen BK171.out 9) | ((with_reducible refine gate_callee (f := 140) rfl ?_); refine goesL_ (some 5) rfl rfl Try.func140 (by kernel_rfl) rfl #[.string a0_0] rfl (by (try simp only [List.map_toArray, List.map_cons, List.map_nil]); first | done | rfl | (simp only [List.length_drop, List.length_take]; rfl)) ?_; (with_reducible refine (triremeref07_maybe.calls k a0_0 true _ A2.out).mono ?_); rintro e w' ⟨rfl, ⟨nd, rfl⟩⟩; refine ⟨_, rfl, ?_⟩) | (go_at_call 140; (with_reducible refine (triremeref07_maybe.calls k a0_1 true _ A4.out).mono ?_); rintro e w' ⟨rfl, ⟨nd, rfl⟩⟩) | (go_at_call 141; (with_reducible refine (triremeref04_Right.calls a0_2 a0_3 a0_4 a0_5 a0_6 true _ A6.out).mono ?_); rintro e w19 ⟨rfl, hb⟩; have n0_ := Aside0.mk (blk_below (g := gb171) (o := .cells #[.string a0_0, .string a0_1, .int .i64 a0_2, .int .i64 a0_3, .int .i64 a0_4, .int .i64 a0_5, .int .i64 a0_6, .slice A0_7 l0_7.length c0_7, .slice A0_8 l0_8.length c0_8, .bool a0_9] 74 (0, 0)) (by (with_reducible repeat (first | refine blk_drewN ?_ _ | refine blk_drew ?_ | refine blk_alloc ?_ _)); exact BK171.out) hb); have n1_ := Aside0.mk (below_step (by repeat (first | (with_reducible first | exact HB.out | apply below_alloc | apply pw_below_drewN | apply below_drew1 | refine below_set ?_ GE171.out) | exact HB.out)) hb); clear BK171; clear HB; have BK171 := n0_; have HB := n1_; clear n0_ n1_; (try clear hb); (try clear hb2); (try clear hk); (try clear hi); have hcz20_0 : w19.cell? ⟨gb171, 0, none⟩ = some (.string a0_0) := (blk_cell BK171.out 0).trans rfl; have hcz20_1 : w19.cell? ⟨gb171, 1, none⟩ = some (.string a0_1) := (blk_cell BK171.out 1).trans rfl; have hcz20_2 : w19.cell? ⟨gb171, 2, none⟩ = some (.int .i64 a0_2) := (blk_cell BK171.out 2).trans rfl; have hcz20_3 : w19.cell? ⟨gb171, 3, none⟩ = some (.int .i64 a0_3) := (blk_cell BK171.out 3).trans rfl; have hcz20_4 : w19.cell? ⟨gb171, 4, none⟩ = some (.int .i64 a0_4) := (blk_cell BK171.out 4).trans rfl; have hcz20_5 : w19.cell? ⟨gb171, 5, none⟩ = some (.int .i64 a0_5) := (blk_cell BK171.out 5).trans rfl; have hcz20_6 : w19.cell? ⟨gb171, 6, none⟩ = some (.int .i64 a0_6) := (blk_cell BK171.out 6).trans rfl; have hcz20_7 : w19.cell? ⟨gb171, 7, none⟩ = some (.slice A0_7 l0_7.length c0_7) := (blk_cell BK171.out 7).trans rfl; have hcz20_8 : w19.cell? ⟨gb171, 8, none⟩ = some (.slice A0_8 l0_8.length c0_8) := (blk_cell BK171.out 8).trans rfl; have hcz20_9 : w19.cell? ⟨gb171, 9, none⟩ = some (.bool a0_9) := (blk_cell BK171.out 9).trans rfl; have hfz20_0 := blk_frozen BK171.out 0; have hfz20_1 := blk_frozen BK171.out 1; have hfz20_2 := blk_frozen BK171.out 2; have hfz20_3 := blk_frozen BK171.out 3; have hfz20_4 := blk_frozen BK171.out 4; have hfz20_5 := blk_frozen BK171.out 5; have hfz20_6 := blk_frozen BK171.out 6; have hfz20_7 := blk_frozen BK171.out 7; have hfz20_8 := blk_frozen BK171.out 8; have hfz20_9 := blk_frozen BK171.out 9) | (go_at_call 74; (with_reducible refine (triremeref05_Right.calls k _ _ l0_7 false _ ?side1 ?side2 A8.out).mono ?_); (case side1 => repeat (first | exact (Kd.C_below HR0_7.out HB.out) | (with_reducible refine Kd.C_alloc ?_ _) | (with_reducible refine Kd.C_drewN ?_ _) | (with_reducible refine Kd.C_drew ?_))); (case side2 => exact HC0_7.out); rintro e w21 ⟨rfl, hb⟩; have n0_ := Aside0.mk (blk_below (g := gb171) (o := .cells #[.string a0_0, .string a0_1, .int .i64 a0_2, .int .i64 a0_3, .int .i64 a0_4, .int .i64 a0_5, .int .i64 a0_6, .slice A0_7 l0_7.length c0_7, .slice A0_8 l0_8.length c0_8, .bool a0_9] 74 (0, 0)) (by (with_reducible repeat (first | refine blk_drewN ?_ _ | refine blk_drew ?_ | refine blk_alloc ?_ _)); exact BK171.out) hb); have n1_ := Aside0.mk (below_step (by repeat (first | (with_reducible first | exact HB.out | apply below_alloc | apply pw_below_drewN | apply below_drew1 | refine below_set ?_ GE171.out) | exact HB.out)) hb); clear BK171; clear HB; have BK171 := n0_; have HB := n1_; clear n0_ n1_; (try clear hb); (try clear hb2); (try clear hk); (try clear hi)))
          go_ret
          exact ⟨by first | rfl | (simp [errW_none, errW_some] <;> rfl) | (simp [*, errW_none, errW_some] <;> rfl), by repeat (first | (with_reducible first | exact HB.out | apply below_alloc | apply pw_below_drewN | apply below_drew1 | refine below_set ?_ GE171.out) | exact HB.out)⟩
      · replace c7 := Bool.eq_false_iff.mpr c7
        subst c7
        have H1 : (some false) = some r := by rw [if_neg (show ¬ (false = true) by decide)] at H; exact H
        clear H
        have H := H1
        clear H1
        obtain rfl := Option.some.inj H
        go_enter Try.func126, Try.ntmps126
        go_wp2_with (first | ((with_reducible refine gate_dst (N := 1) rfl ?_); refine box_event ?hg (N := 1) ?hd (cs := #[.string a0_0, .string a0_1, .int .i64 a0_2, .int .i64 a0_3, .int .i64 a0_4, .int .i64 a0_5, .int .i64 a0_6, .slice A0_7 l0_7.length c0_7, .slice A0_8 l0_8.length c0_8, .bool a0_9]) (t := 74) ?hr ?_; (case hd => rfl); (case hg => rfl); (case hr => first | (go_simp; done) | (go_simp; rfl)); intro gb171 hg w22 hbox hb; have n0_ := Aside0.mk (below_step (by repeat (first | (with_reducible first | exact HB.out | apply below_alloc | apply pw_below_drewN | apply below_drew1) | exact HB.out)) hb); have n1_ := Aside0.mk (hbox); have n2_ := Aside0.mk ((by rw [hg]; exact (below_size (by repeat (first | (with_reducible first | exact HB.out | apply below_alloc | apply pw_below_drewN | apply below_drew1) | exact HB.out))) : w.heap.size ≤ gb171)); have n3_ := Aside0.mk ((by rw [hg]; exact (below_size (by repeat (first | (with_reducible first | exact HB.out | apply below_alloc | apply pw_below_drewN | apply below_drew1) | exact HB.out))) : w.heap.size ≤ gb171)); clear HB; have HB := n0_; have BK171 := n1_; have GW171 := n2_; have GE171 := n3_; clear n0_ n1_ n2_ n3_; clear hb hbox hg; have hcz23_0 : w22.cell? ⟨gb171, 0, none⟩ = some (.string a0_0) := (blk_cell BK171.out 0).trans rfl; have hcz23_1 : w22.cell? ⟨gb171, 1, none⟩ = some (.string a0_1) := (blk_cell BK171.out 1).trans rfl; have hcz23_2 : w22.cell? ⟨gb171, 2, none⟩ = some (.int .i64 a0_2) := (blk_cell BK171.out 2).trans rfl; have hcz23_3 : w22.cell? ⟨gb171, 3, none⟩ = some (.int .i64 a0_3) := (blk_cell BK171.out 3).trans rfl; have hcz23_4 : w22.cell? ⟨gb171, 4, none⟩ = some (.int .i64 a0_4) := (blk_cell BK171.out 4).trans rfl; have hcz23_5 : w22.cell? ⟨gb171, 5, none⟩ = some (.int .i64 a0_5) := (blk_cell BK171.out 5).trans rfl; have hcz23_6 : w22.cell? ⟨gb171, 6, none⟩ = some (.int .i64 a0_6) := (blk_cell BK171.out 6).trans rfl; have hcz23_7 : w22.cell? ⟨gb171, 7, none⟩ = some (.slice A0_7 l0_7.length c0_7) := (blk_cell BK171.out 7).trans rfl; have hcz23_8 : w22.cell? ⟨gb171, 8, none⟩ = some (.slice A0_8 l0_8.length c0_8) := (blk_cell BK171.out 8).trans rfl; have hcz23_9 : w22.cell? ⟨gb171, 9, none⟩ = some (.bool a0_9) := (blk_cell BK171.out 9).trans rfl; have hfz23_0 := blk_frozen BK171.out 0; have hfz23_1 := blk_frozen BK171.out 1; have hfz23_2 := blk_frozen BK171.out 2; have hfz23_3 := blk_frozen BK171.out 3; have hfz23_4 := blk_frozen BK171.out 4; have hfz23_5 := blk_frozen BK171.out 5; have hfz23_6 := blk_frozen BK171.out 6; have hfz23_7 := blk_frozen BK171.out 7; have hfz23_8 := blk_frozen BK171.out 8; have hfz23_9 := blk_frozen BK171.out 9) | ((with_reducible refine gate_callee (f := 140) rfl ?_); refine goesL_ (some 5) rfl rfl Try.func140 (by kernel_rfl) rfl #[.string a0_0] rfl (by (try simp only [List.map_toArray, List.map_cons, List.map_nil]); first | done | rfl | (simp only [List.length_drop, List.length_take]; rfl)) ?_; (with_reducible refine (triremeref07_maybe.calls k a0_0 true _ A2.out).mono ?_); rintro e w' ⟨rfl, ⟨nd, rfl⟩⟩; refine ⟨_, rfl, ?_⟩) | (go_at_call 140; (with_reducible refine (triremeref07_maybe.calls k a0_1 true _ A4.out).mono ?_); rintro e w' ⟨rfl, ⟨nd, rfl⟩⟩) | (go_at_call 141; (with_reducible refine (triremeref04_Right.calls a0_2 a0_3 a0_4 a0_5 a0_6 false _ A6.out).mono ?_); rintro e w24 ⟨rfl, hb⟩; have n0_ := Aside0.mk (blk_below (g := gb171) (o := .cells #[.string a0_0, .string a0_1, .int .i64 a0_2, .int .i64 a0_3, .int .i64 a0_4, .int .i64 a0_5, .int .i64 a0_6, .slice A0_7 l0_7.length c0_7, .slice A0_8 l0_8.length c0_8, .bool a0_9] 74 (0, 0)) (by (with_reducible repeat (first | refine blk_drewN ?_ _ | refine blk_drew ?_ | refine blk_alloc ?_ _)); exact BK171.out) hb); have n1_ := Aside0.mk (below_step (by repeat (first | (with_reducible first | exact HB.out | apply below_alloc | apply pw_below_drewN | apply below_drew1 | refine below_set ?_ GE171.out) | exact HB.out)) hb); clear BK171; clear HB; have BK171 := n0_; have HB := n1_; clear n0_ n1_; (try clear hb); (try clear hb2); (try clear hk); (try clear hi)))
        go_ret
        exact ⟨by first | rfl | (simp [errW_none, errW_some] <;> rfl) | (simp [*, errW_none, errW_some] <;> rfl), by repeat (first | (with_reducible first | exact HB.out | apply below_alloc | apply pw_below_drewN | apply below_drew1 | refine below_set ?_ GE171.out) | exact HB.out)⟩
    · replace c5 := Bool.eq_false_iff.mpr c5
      subst c5
      have H1 : (some false) = some r := by rw [if_neg (show ¬ (false = true) by decide)] at H; exact H
      clear H
      have H := H1
      clear H1
      obtain rfl := Option.some.inj H
      go_enter Try.func126, Try.ntmps126
      go_wp2_with (first | ((with_reducible refine gate_dst (N := 1) rfl ?_); refine box_event ?hg (N := 1) ?hd (cs := #[.string a0_0, .string a0_1, .int .i64 a0_2, .int .i64 a0_3, .int .i64 a0_4, .int .i64 a0_5, .int .i64 a0_6, .slice A0_7 l0_7.length c0_7, .slice A0_8 l0_8.length c0_8, .bool a0_9]) (t := 74) ?hr ?_; (case hd => rfl); (case hg => rfl); (case hr => first | (go_simp; done) | (go_simp; rfl)); intro gb171 hg w25 hbox hb; have n0_ := Aside0.mk (below_step (by repeat (first | (with_reducible first | exact HB.out | apply below_alloc | apply pw_below_drewN | apply below_drew1) | exact HB.out)) hb); have n1_ := Aside0.mk (hbox); have n2_ := Aside0.mk ((by rw [hg]; exact (below_size (by repeat (first | (with_reducible first | exact HB.out | apply below_alloc | apply pw_below_drewN | apply below_drew1) | exact HB.out))) : w.heap.size ≤ gb171)); have n3_ := Aside0.mk ((by rw [hg]; exact (below_size (by repeat (first | (with_reducible first | exact HB.out | apply below_alloc | apply pw_below_drewN | apply below_drew1) | exact HB.out))) : w.heap.size ≤ gb171)); clear HB; have HB := n0_; have BK171 := n1_; have GW171 := n2_; have GE171 := n3_; clear n0_ n1_ n2_ n3_; clear hb hbox hg; have hcz26_0 : w25.cell? ⟨gb171, 0, none⟩ = some (.string a0_0) := (blk_cell BK171.out 0).trans rfl; have hcz26_1 : w25.cell? ⟨gb171, 1, none⟩ = some (.string a0_1) := (blk_cell BK171.out 1).trans rfl; have hcz26_2 : w25.cell? ⟨gb171, 2, none⟩ = some (.int .i64 a0_2) := (blk_cell BK171.out 2).trans rfl; have hcz26_3 : w25.cell? ⟨gb171, 3, none⟩ = some (.int .i64 a0_3) := (blk_cell BK171.out 3).trans rfl; have hcz26_4 : w25.cell? ⟨gb171, 4, none⟩ = some (.int .i64 a0_4) := (blk_cell BK171.out 4).trans rfl; have hcz26_5 : w25.cell? ⟨gb171, 5, none⟩ = some (.int .i64 a0_5) := (blk_cell BK171.out 5).trans rfl; have hcz26_6 : w25.cell? ⟨gb171, 6, none⟩ = some (.int .i64 a0_6) := (blk_cell BK171.out 6).trans rfl; have hcz26_7 : w25.cell? ⟨gb171, 7, none⟩ = some (.slice A0_7 l0_7.length c0_7) := (blk_cell BK171.out 7).trans rfl; have hcz26_8 : w25.cell? ⟨gb171, 8, none⟩ = some (.slice A0_8 l0_8.length c0_8) := (blk_cell BK171.out 8).trans rfl; have hcz26_9 : w25.cell? ⟨gb171, 9, none⟩ = some (.bool a0_9) := (blk_cell BK171.out 9).trans rfl; have hfz26_0 := blk_frozen BK171.out 0; have hfz26_1 := blk_frozen BK171.out 1; have hfz26_2 := blk_frozen BK171.out 2; have hfz26_3 := blk_frozen BK171.out 3; have hfz26_4 := blk_frozen BK171.out 4; have hfz26_5 := blk_frozen BK171.out 5; have hfz26_6 := blk_frozen BK171.out 6; have hfz26_7 := blk_frozen BK171.out 7; have hfz26_8 := blk_frozen BK171.out 8; have hfz26_9 := blk_frozen BK171.out 9) | ((with_reducible refine gate_callee (f := 140) rfl ?_); refine goesL_ (some 5) rfl rfl Try.func140 (by kernel_rfl) rfl #[.string a0_0] rfl (by (try simp only [List.map_toArray, List.map_cons, List.map_nil]); first | done | rfl | (simp only [List.length_drop, List.length_take]; rfl)) ?_; (with_reducible refine (triremeref07_maybe.calls k a0_0 true _ A2.out).mono ?_); rintro e w' ⟨rfl, ⟨nd, rfl⟩⟩; refine ⟨_, rfl, ?_⟩) | (go_at_call 140; (with_reducible refine (triremeref07_maybe.calls k a0_1 false _ A4.out).mono ?_); rintro e w' ⟨rfl, ⟨nd, rfl⟩⟩))
      go_ret
      exact ⟨by first | rfl | (simp [errW_none, errW_some] <;> rfl) | (simp [*, errW_none, errW_some] <;> rfl), by repeat (first | (with_reducible first | exact HB.out | apply below_alloc | apply pw_below_drewN | apply below_drew1 | refine below_set ?_ GE171.out) | exact HB.out)⟩
  · replace c3 := Bool.eq_false_iff.mpr c3
    subst c3
    have H1 : (some false) = some r := by rw [if_neg (show ¬ (false = true) by decide)] at H; exact H
    clear H
    have H := H1
    clear H1
    obtain rfl := Option.some.inj H
    go_enter Try.func126, Try.ntmps126
    go_wp2_with (first | ((with_reducible refine gate_dst (N := 1) rfl ?_); refine box_event ?hg (N := 1) ?hd (cs := #[.string a0_0, .string a0_1, .int .i64 a0_2, .int .i64 a0_3, .int .i64 a0_4, .int .i64 a0_5, .int .i64 a0_6, .slice A0_7 l0_7.length c0_7, .slice A0_8 l0_8.length c0_8, .bool a0_9]) (t := 74) ?hr ?_; (case hd => rfl); (case hg => rfl); (case hr => first | (go_simp; done) | (go_simp; rfl)); intro gb171 hg w27 hbox hb; have n0_ := Aside0.mk (below_step (by repeat (first | (with_reducible first | exact HB.out | apply below_alloc | apply pw_below_drewN | apply below_drew1) | exact HB.out)) hb); have n1_ := Aside0.mk (hbox); have n2_ := Aside0.mk ((by rw [hg]; exact (below_size (by repeat (first | (with_reducible first | exact HB.out | apply below_alloc | apply pw_below_drewN | apply below_drew1) | exact HB.out))) : w.heap.size ≤ gb171)); have n3_ := Aside0.mk ((by rw [hg]; exact (below_size (by repeat (first | (with_reducible first | exact HB.out | apply below_alloc | apply pw_below_drewN | apply below_drew1) | exact HB.out))) : w.heap.size ≤ gb171)); clear HB; have HB := n0_; have BK171 := n1_; have GW171 := n2_; have GE171 := n3_; clear n0_ n1_ n2_ n3_; clear hb hbox hg; have hcz28_0 : w27.cell? ⟨gb171, 0, none⟩ = some (.string a0_0) := (blk_cell BK171.out 0).trans rfl; have hcz28_1 : w27.cell? ⟨gb171, 1, none⟩ = some (.string a0_1) := (blk_cell BK171.out 1).trans rfl; have hcz28_2 : w27.cell? ⟨gb171, 2, none⟩ = some (.int .i64 a0_2) := (blk_cell BK171.out 2).trans rfl; have hcz28_3 : w27.cell? ⟨gb171, 3, none⟩ = some (.int .i64 a0_3) := (blk_cell BK171.out 3).trans rfl; have hcz28_4 : w27.cell? ⟨gb171, 4, none⟩ = some (.int .i64 a0_4) := (blk_cell BK171.out 4).trans rfl; have hcz28_5 : w27.cell? ⟨gb171, 5, none⟩ = some (.int .i64 a0_5) := (blk_cell BK171.out 5).trans rfl; have hcz28_6 : w27.cell? ⟨gb171, 6, none⟩ = some (.int .i64 a0_6) := (blk_cell BK171.out 6).trans rfl; have hcz28_7 : w27.cell? ⟨gb171, 7, none⟩ = some (.slice A0_7 l0_7.length c0_7) := (blk_cell BK171.out 7).trans rfl; have hcz28_8 : w27.cell? ⟨gb171, 8, none⟩ = some (.slice A0_8 l0_8.length c0_8) := (blk_cell BK171.out 8).trans rfl; have hcz28_9 : w27.cell? ⟨gb171, 9, none⟩ = some (.bool a0_9) := (blk_cell BK171.out 9).trans rfl; have hfz28_0 := blk_frozen BK171.out 0; have hfz28_1 := blk_frozen BK171.out 1; have hfz28_2 := blk_frozen BK171.out 2; have hfz28_3 := blk_frozen BK171.out 3; have hfz28_4 := blk_frozen BK171.out 4; have hfz28_5 := blk_frozen BK171.out 5; have hfz28_6 := blk_frozen BK171.out 6; have hfz28_7 := blk_frozen BK171.out 7; have hfz28_8 := blk_frozen BK171.out 8; have hfz28_9 := blk_frozen BK171.out 9) | ((with_reducible refine gate_callee (f := 140) rfl ?_); refine goesL_ (some 5) rfl rfl Try.func140 (by kernel_rfl) rfl #[.string a0_0] rfl (by (try simp only [List.map_toArray, List.map_cons, List.map_nil]); first | done | rfl | (simp only [List.length_drop, List.length_take]; rfl)) ?_; (with_reducible refine (triremeref07_maybe.calls k a0_0 false _ A2.out).mono ?_); rintro e w' ⟨rfl, ⟨nd, rfl⟩⟩; refine ⟨_, rfl, ?_⟩))
    go_ret
    exact ⟨by first | rfl | (simp [errW_none, errW_some] <;> rfl) | (simp [*, errW_none, errW_some] <;> rfl), by repeat (first | (with_reducible first | exact HB.out | apply below_alloc | apply pw_below_drewN | apply below_drew1 | refine below_set ?_ GE171.out) | exact HB.out)⟩

end Go.Proofs.Ytdpchfifaidamaa.PLedgerTells
