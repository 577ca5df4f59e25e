/- New, Clear, Fine. No condition. -/
import Derived.Test.YtdpchfifaidamaaKg
namespace Go.Proofs.Ytdpchfifaidamaa.K
open Go.RowKit Go.Maps Go.Proofs.YtdpchfifaidamaaW.PrintWords Go.Proofs.Ytdpchfifaidamaa.B
set_option linter.unusedVariables false
set_option linter.unusedSimpArgs false

theorem timeB_yes {n : Int} (h0 : 0 ≤ n) (h1 : n ≤ 1099511627776) : timeB n = true := by unfold timeB; simp [h0, h1]
theorem timeB_no {n : Int} (h : ¬ (0 ≤ n ∧ n ≤ 1099511627776)) : timeB n = false := by
  unfold timeB
  by_cases h0 : 0 ≤ n
  · have : ¬ n ≤ 1099511627776 := fun h1 => h ⟨h0, h1⟩
    simp [this]
  · simp [h0]
def NewPost (w : World) (F M R : Int) (e : Ending) (w' : World) : Prop := ∃ g b, e = .returned (.tuple #[.pointer (some ⟨g, 0, none⟩), .int .i64 0]) ∧ BT w' g b (.slice none 0 0) w.heap.size 0 [] F M R ∧ Fr no w w' ∧ w.heap.size ≤ g ∧ w.heap.size ≤ b
set_option maxRecDepth 100000 in
set_option maxHeartbeats 1000000 in
theorem new_yes (w : World) (F M R : Int) (hP : Par F M R) : Calls Try.prog 21 #[.int .i64 F, .int .i64 M, .int .i64 R] w (NewPost w F M R) := by
  have hmm := @run_makeMap Try.prog
  have hd1 : decide (F < 1) = false := decide_eq_false (by have := hP.f1; omega)
  have hd2 : decide (M < F) = false := decide_eq_false (by have := hP.fm; omega)
  have hd3 : decide (R < 1) = false := decide_eq_false (by have := hP.r1; omega)
  have HT1 := Aside0.mk (timeB_yes (n := M) (by have := hP.f1; have := hP.fm; omega) hP.m1)
  have HT2 := Aside0.mk (timeB_yes (n := R) (by have := hP.r1; omega) hP.r2)
  have HP := Aside0.mk hP
  have hu115 := Try.underlying115
  clear hP
  go_enter Try.func21, Try.ntmps21
  go_wp2_with (first
    | (go_at_call_of 80 (Value.int .i64 M); refine (time_calls M _).mono ?_; rintro e w' ⟨rfl, rfl⟩; rw [HT1.out])
    | (go_at_call_of 80 (Value.int .i64 R); refine (time_calls R _).mono ?_; rintro e w' ⟨rfl, rfl⟩; rw [HT2.out]))
  go_ret2
  refine ⟨w.heap.size + 1, w.heap.size, rfl, ⟨?_, SRow.nil _ _, ?_, ?_, HP.out⟩, ((Fr.refl w no).alloc _).alloc _, by omega, Nat.le_refl _⟩
  · have := heap_alloc_new (w.alloc (.map #[] 0)) (.cells #[.map (some w.heap.size), .slice none 0 0, .int .i64 F, .int .i64 M, .int .i64 R] 115)
    simpa using this
  · exact (MapIs2.made w).alloc _
  · exact (((Fr.refl w no).alloc _).alloc _).size
def RNewPost (w : World) (F M R : Int) (e : Ending) (w' : World) : Prop := ∃ g, e = .returned (.tuple #[.pointer (some ⟨g, 0, none⟩), .int .i64 0]) ∧ BR w' g (.slice none 0 0) w.heap.size [] F M R ∧ Fr no w w' ∧ w.heap.size ≤ g
set_option maxRecDepth 100000 in
set_option maxHeartbeats 1000000 in
theorem rnew_yes (w : World) (F M R : Int) (hP : Par F M R) : Calls Try.prog 22 #[.int .i64 F, .int .i64 M, .int .i64 R] w (RNewPost w F M R) := by
  have hd1 : decide (F < 1) = false := decide_eq_false (by have := hP.f1; omega)
  have hd2 : decide (M < F) = false := decide_eq_false (by have := hP.fm; omega)
  have hd3 : decide (R < 1) = false := decide_eq_false (by have := hP.r1; omega)
  have HT1 := Aside0.mk (timeB_yes (n := M) (by have := hP.f1; have := hP.fm; omega) hP.m1)
  have HT2 := Aside0.mk (timeB_yes (n := R) (by have := hP.r1; omega) hP.r2)
  have HP := Aside0.mk hP
  have hu54 := Try.underlying54
  clear hP
  go_enter Try.func22, Try.ntmps22
  go_wp2_with (first
    | (go_at_call_of 81 (Value.int .i64 M); refine (rtime_calls M _).mono ?_; rintro e w' ⟨rfl, rfl⟩; rw [HT1.out])
    | (go_at_call_of 81 (Value.int .i64 R); refine (rtime_calls R _).mono ?_; rintro e w' ⟨rfl, rfl⟩; rw [HT2.out]))
  go_ret2
  exact ⟨w.heap.size, rfl, ⟨heap_alloc_new w _, EOwn.nil _ _, ((Fr.refl w no).alloc _).size⟩, (Fr.refl w no).alloc _, Nat.le_refl _⟩
theorem par_not {F M R : Int} (h : ¬ Par F M R) : F < 1 ∨ (¬ F < 1 ∧ M < F) ∨ (¬ F < 1 ∧ ¬ M < F ∧ R < 1) ∨ (¬ F < 1 ∧ ¬ M < F ∧ ¬ R < 1 ∧ timeB M = false) ∨ (¬ F < 1 ∧ ¬ M < F ∧ ¬ R < 1 ∧ timeB M = true ∧ timeB R = false) := by
  by_cases h1 : F < 1
  · exact .inl h1
  by_cases h2 : M < F
  · exact .inr (.inl ⟨h1, h2⟩)
  by_cases h3 : R < 1
  · exact .inr (.inr (.inl ⟨h1, h2, h3⟩))
  by_cases h4 : M ≤ 1099511627776
  · by_cases h5 : R ≤ 1099511627776
    · exact absurd ⟨by omega, by omega, h4, by omega, h5⟩ h
    · exact .inr (.inr (.inr (.inr ⟨h1, h2, h3, timeB_yes (by omega) h4, timeB_no (fun hh => h5 hh.2)⟩)))
  · exact .inr (.inr (.inr (.inl ⟨h1, h2, h3, timeB_no (fun hh => h4 hh.2)⟩)))
set_option maxRecDepth 100000 in
set_option maxHeartbeats 2000000 in
theorem new_no (w : World) (F M R : Int) (hP : ¬ Par F M R) : Calls Try.prog 21 #[.int .i64 F, .int .i64 M, .int .i64 R] w fun e w' => e = .returned (.tuple #[.pointer none, .int .i64 1]) ∧ w = w' := by
  rcases par_not hP with h | ⟨h1, h⟩ | ⟨h1, h2, h⟩ | ⟨h1, h2, h3, h⟩ | ⟨h1, h2, h3, h4, h⟩
  · have hd1 : decide (F < 1) = true := decide_eq_true h
    clear h hP
    go_enter Try.func21, Try.ntmps21
    go_wp2_with fail
    go_ret2
    exact ⟨rfl, rfl⟩
  · have hd1 : decide (F < 1) = false := decide_eq_false h1
    have hd2 : decide (M < F) = true := decide_eq_true h
    clear h h1 hP
    go_enter Try.func21, Try.ntmps21
    go_wp2_with fail
    go_ret2
    exact ⟨rfl, rfl⟩
  · have hd1 : decide (F < 1) = false := decide_eq_false h1
    have hd2 : decide (M < F) = false := decide_eq_false h2
    have hd3 : decide (R < 1) = true := decide_eq_true h
    clear h h1 h2 hP
    go_enter Try.func21, Try.ntmps21
    go_wp2_with fail
    go_ret2
    exact ⟨rfl, rfl⟩
  · have hd1 : decide (F < 1) = false := decide_eq_false h1
    have hd2 : decide (M < F) = false := decide_eq_false h2
    have hd3 : decide (R < 1) = false := decide_eq_false h3
    have HT1 := Aside0.mk h
    clear h h1 h2 h3 hP
    go_enter Try.func21, Try.ntmps21
    go_wp2_with (first
      | (go_at_call_of 80 (Value.int .i64 M); refine (time_calls M _).mono ?_; rintro e w' ⟨rfl, rfl⟩; rw [HT1.out]))
    go_ret2
    exact ⟨rfl, rfl⟩
  · have hd1 : decide (F < 1) = false := decide_eq_false h1
    have hd2 : decide (M < F) = false := decide_eq_false h2
    have hd3 : decide (R < 1) = false := decide_eq_false h3
    have HT1 := Aside0.mk h4
    have HT2 := Aside0.mk h
    clear h h1 h2 h3 h4 hP
    go_enter Try.func21, Try.ntmps21
    go_wp2_with (first
      | (go_at_call_of 80 (Value.int .i64 M); refine (time_calls M _).mono ?_; rintro e w' ⟨rfl, rfl⟩; rw [HT1.out])
      | (go_at_call_of 80 (Value.int .i64 R); refine (time_calls R _).mono ?_; rintro e w' ⟨rfl, rfl⟩; rw [HT2.out]))
    go_ret2
    exact ⟨rfl, rfl⟩
def RNoPost (w : World) (e : Ending) (w' : World) : Prop := ∃ g, e = .returned (.tuple #[.pointer (some ⟨g, 0, none⟩), .int .i64 1]) ∧ Fr no w w'
set_option maxRecDepth 100000 in
set_option maxHeartbeats 2000000 in
theorem rnew_no (w : World) (F M R : Int) (hP : ¬ Par F M R) : Calls Try.prog 22 #[.int .i64 F, .int .i64 M, .int .i64 R] w (RNoPost w) := by
  have hu54 := Try.underlying54
  rcases par_not hP with h | ⟨h1, h⟩ | ⟨h1, h2, h⟩ | ⟨h1, h2, h3, h⟩ | ⟨h1, h2, h3, h4, h⟩
  · have hd1 : decide (F < 1) = true := decide_eq_true h
    clear h hP
    go_enter Try.func22, Try.ntmps22
    go_wp2_with fail
    go_ret2
    exact ⟨_, rfl, (Fr.refl w no).alloc _⟩
  · have hd1 : decide (F < 1) = false := decide_eq_false h1
    have hd2 : decide (M < F) = true := decide_eq_true h
    clear h h1 hP
    go_enter Try.func22, Try.ntmps22
    go_wp2_with fail
    go_ret2
    exact ⟨_, rfl, (Fr.refl w no).alloc _⟩
  · have hd1 : decide (F < 1) = false := decide_eq_false h1
    have hd2 : decide (M < F) = false := decide_eq_false h2
    have hd3 : decide (R < 1) = true := decide_eq_true h
    clear h h1 h2 hP
    go_enter Try.func22, Try.ntmps22
    go_wp2_with fail
    go_ret2
    exact ⟨_, rfl, (Fr.refl w no).alloc _⟩
  · have hd1 : decide (F < 1) = false := decide_eq_false h1
    have hd2 : decide (M < F) = false := decide_eq_false h2
    have hd3 : decide (R < 1) = false := decide_eq_false h3
    have HT1 := Aside0.mk h
    clear h h1 h2 h3 hP
    go_enter Try.func22, Try.ntmps22
    go_wp2_with (first
      | (go_at_call_of 81 (Value.int .i64 M); refine (rtime_calls M _).mono ?_; rintro e w' ⟨rfl, rfl⟩; rw [HT1.out]))
    go_ret2
    exact ⟨_, rfl, (Fr.refl w no).alloc _⟩
  · have hd1 : decide (F < 1) = false := decide_eq_false h1
    have hd2 : decide (M < F) = false := decide_eq_false h2
    have hd3 : decide (R < 1) = false := decide_eq_false h3
    have HT1 := Aside0.mk h4
    have HT2 := Aside0.mk h
    clear h h1 h2 h3 h4 hP
    go_enter Try.func22, Try.ntmps22
    go_wp2_with (first
      | (go_at_call_of 81 (Value.int .i64 M); refine (rtime_calls M _).mono ?_; rintro e w' ⟨rfl, rfl⟩; rw [HT1.out])
      | (go_at_call_of 81 (Value.int .i64 R); refine (rtime_calls R _).mono ?_; rintro e w' ⟨rfl, rfl⟩; rw [HT2.out]))
    go_ret2
    exact ⟨_, rfl, (Fr.refl w no).alloc _⟩

set_option maxRecDepth 100000 in
set_option maxHeartbeats 1000000 in
theorem clear_calls (w : World) (g b : Nat) (v : Value) (base n : Nat) (L : List N3) (F M R : Int) (h : BT w g b v base n L F M R) :
    Calls Try.prog 27 #[.pointer (some ⟨g, 0, none⟩)] w (BPost w g b v base 0 [] F M R (.tuple #[])) := by
  have HH := Aside0.mk h
  obtain ⟨hc0, -, hc2, -, -⟩ := h.cell
  clear h
  go_enter Try.func27, Try.ntmps27
  go_upto_region 1 with (first
    | (go_at_call 82; refine (there_calls _ g F hc2 HH.out.par.f1).mono ?_; rintro e w' ⟨rfl, rfl⟩))
  go_wp2_with (first
    | (refine wpL2_clear rfl _ rfl rfl HH.out.map ?_; intro w1 hm1 hf1 _; have HM1 := Aside0.mk hm1; have HF1 := Aside0.mk hf1; have hb1 := blk_fr HH.out.blk hf1 HH.out.gb; have HB1 := Aside0.mk hb1; have hz1 : w1.frozen? ⟨g, 1, none⟩ = false := blk_frozen hb1 1; have hz2 : w1.cell? ⟨g, 1, none⟩ = some v := (blk_cell hb1 1).trans rfl; clear hm1 hf1 hb1))
  go_end0
  have hfs : Fr (fun k => k = g) w1 (w1.setCell ⟨g, 1, none⟩ (.slice none 0 0)) := (Fr.refl w1 (fun k => k = g)).setCell (p := ⟨g, 1, none⟩) (.inl rfl) _
  exact ⟨_, rfl, ⟨blk_set HB1.out 1 _, SRow.nil _ _, (HM1.out.fr hfs (fun e => HH.out.gb e.symm)).congr (fun _ _ => rfl), Nat.le_trans HH.out.base_le (Nat.le_trans HF1.out.size hfs.size), HH.out.par⟩, (HF1.out.mono (fun k hk => .inr (.inl hk))).then_ hfs (fun k hk => .inl (.inl hk))⟩
end Go.Proofs.Ytdpchfifaidamaa.K
