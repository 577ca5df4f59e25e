/- Readers of the ledger's arguments: groups, machines, lists of machines. No condition. -/
import Derived.Test.YtdpchfifaidamaaB3
import Derived.Test.YtdpchfifaidamaaV0
namespace Go.Proofs.Ytdpchfifaidamaa.L
open Go.RowKit Go.Maps Go.Proofs.YtdpchfifaidamaaW.PrintWords Go.Proofs.Ytdpchfifaidamaa.B Go.Proofs.Ytdpchfifaidamaa.PLedgerTells
set_option linter.unusedVariables false
set_option linter.unusedSimpArgs false

def RK {α : Type} (d : Kd α) : Rd α := fun w a cs => d.K w a cs
theorem kd_of_sc {α : Type} {d : Kd α} {w : World} {A : Option Addr} {l : List α} (h : SC (RK d) d.sz w A l) (hl : l.length ≤ maxLen) : Kd.C d w A l.length l := by
  refine ⟨rfl, Nat.le_trans hl (by decide), fun h0 => ?_⟩
  obtain ⟨ad, _, e, _, _, _⟩ := h 0 h0
  refine ⟨ad, e, fun j p hp => ?_⟩
  obtain ⟨hj, rfl⟩ := List.getElem?_eq_some_iff.1 hp
  obtain ⟨ad', cs, e', hlen, hc, hk⟩ := h j hj
  rw [e] at e'
  obtain rfl := Option.some.inj e'
  exact ⟨cs, hlen, hk, hc⟩
instance : Inhabited S83 := ⟨z83⟩
instance : Inhabited S157 := ⟨z157⟩
instance : Inhabited S135 := ⟨z135⟩
instance : Inhabited S76 := ⟨z76⟩
theorem cells83 : Try.prog.cellsOf 83 = 2 := by kernel_rfl
theorem cells157 : Try.prog.cellsOf 157 = 3 := by kernel_rfl
theorem cells70 : Try.prog.cellsOf 70 = 5 := by kernel_rfl
theorem cells71 : Try.prog.cellsOf 71 = 1 := by kernel_rfl
theorem cells72 : Try.prog.cellsOf 72 = 1 := by kernel_rfl
theorem cells4 : Try.prog.cellsOf 4 = 1 := by kernel_rfl
theorem cells74 : Try.prog.cellsOf 74 = 10 := by kernel_rfl
theorem cells76 : Try.prog.cellsOf 76 = 15 := by kernel_rfl
theorem cells94 : Try.prog.cellsOf 94 = 1 := by kernel_rfl
theorem cells135 : Try.prog.cellsOf 135 = 5 := by kernel_rfl
set_option maxRecDepth 100000
theorem opens83 : Opens (RK k83) 83 := fun enc w base spare held fuel cs x h => by
  obtain ⟨xs, n, _, _, hlen, _, _⟩ := DataW.trod_struct Try.underlying83 h
  rw [cells83] at hlen
  match cs, hlen with
  | [c0, c1], _ =>
    obtain ⟨a0, h0, _⟩ := opens_field Try.underlying83 h 0 0 1 rfl (opens_str Try.underlying9) cells9
    obtain ⟨a1, h1, _⟩ := opens_field Try.underlying83 h 1 1 1 rfl (opens_str Try.underlying9) cells9
    simp only [List.drop_zero, List.drop_succ_cons, List.take_succ_cons, List.take_zero, List.cons.injEq, and_true] at h0 h1
    subst h0 h1
    exact ⟨⟨a0, a1⟩, k83_mk w ⟨a0, a1⟩⟩
theorem opens157 : Opens (RK k157) 157 := fun enc w base spare held fuel cs x h => by
  obtain ⟨xs, n, _, _, hlen, _, _⟩ := DataW.trod_struct Try.underlying157 h
  rw [cells157] at hlen
  match cs, hlen with
  | [c0, c1, c2], _ =>
    obtain ⟨a0, h0, _⟩ := opens_field Try.underlying157 h 0 0 1 rfl (opens_str Try.underlying9) cells9
    obtain ⟨a1, h1, _⟩ := opens_field Try.underlying157 h 1 1 1 rfl (opens_str Try.underlying9) cells9
    obtain ⟨a2, h2, _⟩ := opens_field Try.underlying157 h 2 2 1 rfl (opens_int Try.underlying3) cells3
    simp only [List.drop_zero, List.drop_succ_cons, List.take_succ_cons, List.take_zero, List.cons.injEq, and_true] at h0 h1 h2
    subst h0 h1 h2
    exact ⟨⟨a0, a1, a2⟩, k157_mk w ⟨a0, a1, a2⟩⟩
theorem opens135 : Opens (RK k135) 135 := fun enc w base spare held fuel cs x h => by
  obtain ⟨xs, n, _, _, hlen, _, _⟩ := DataW.trod_struct Try.underlying135 h
  rw [cells135] at hlen
  match cs, hlen with
  | [c0, c1, c2, c3, c4], _ =>
    obtain ⟨a0, h0, _⟩ := opens_field Try.underlying135 h 0 0 1 rfl (opens_str Try.underlying9) cells9
    obtain ⟨a1, h1, _⟩ := opens_field Try.underlying135 h 1 1 1 rfl (opens_str Try.underlying9) cells9
    obtain ⟨a2, h2, _⟩ := opens_field Try.underlying135 h 2 2 1 rfl (opens_int Try.underlying3) cells3
    obtain ⟨a3, h3, _⟩ := opens_field Try.underlying135 h 3 3 1 rfl (opens_int Try.underlying3) cells3
    obtain ⟨a4, h4, _⟩ := opens_field Try.underlying135 h 4 4 1 rfl (opens_int Try.underlying3) cells3
    simp only [List.drop_zero, List.drop_succ_cons, List.take_succ_cons, List.take_zero, List.cons.injEq, and_true] at h0 h1 h2 h3 h4
    subst h0 h1 h2 h3 h4
    exact ⟨⟨a0, a1, a2, a3, a4⟩, k135_mk w ⟨a0, a1, a2, a3, a4⟩⟩
theorem opens70 : Opens (RK k70) 70 := fun enc w base spare held fuel cs x h => by
  obtain ⟨xs, n, _, _, hlen, _, _⟩ := DataW.trod_struct Try.underlying70 h
  rw [cells70] at hlen
  match cs, hlen with
  | [c0, c1, c2, c3, c4], _ =>
    obtain ⟨a0, h0, _⟩ := opens_field Try.underlying70 h 0 0 1 rfl (opens_int Try.underlying3) cells3
    obtain ⟨a1, h1, _⟩ := opens_field Try.underlying70 h 1 1 1 rfl (opens_int Try.underlying3) cells3
    obtain ⟨a2, h2, _⟩ := opens_field Try.underlying70 h 2 2 1 rfl (opens_int Try.underlying3) cells3
    obtain ⟨a3, h3, _⟩ := opens_field Try.underlying70 h 3 3 1 rfl (opens_int Try.underlying3) cells3
    obtain ⟨a4, h4, _⟩ := opens_field Try.underlying70 h 4 4 1 rfl (opens_int Try.underlying3) cells3
    simp only [List.drop_zero, List.drop_succ_cons, List.take_succ_cons, List.take_zero, List.cons.injEq, and_true] at h0 h1 h2 h3 h4
    subst h0 h1 h2 h3 h4
    exact ⟨⟨a0, a1, a2, a3, a4⟩, k70_mk w ⟨a0, a1, a2, a3, a4⟩⟩
theorem opens74 : Opens (RK k74) 74 := fun enc w base spare held fuel cs x h => by
  obtain ⟨xs, n, _, _, hlen, _, _⟩ := DataW.trod_struct Try.underlying74 h
  rw [cells74] at hlen
  match cs, hlen with
  | [c0, c1, c2, c3, c4, c5, c6, c7, c8, c9], _ =>
    obtain ⟨a0, h0, _⟩ := opens_field Try.underlying74 h 0 0 1 rfl (opens_str Try.underlying9) cells9
    obtain ⟨a1, h1, _⟩ := opens_field Try.underlying74 h 1 1 1 rfl (opens_str Try.underlying9) cells9
    obtain ⟨a2, h2⟩ := opens_field Try.underlying74 h 2 2 5 rfl opens70 cells70
    obtain ⟨a3, A3, d3, h3, l3, m3, s3⟩ := opens_field Try.underlying74 h 3 7 1 rfl (opens_slice Try.underlying71 opens83 cells83) cells71
    obtain ⟨a4, A4, d4, h4, l4, m4, s4⟩ := opens_field Try.underlying74 h 4 8 1 rfl (opens_slice Try.underlying72 opens157 cells157) cells72
    obtain ⟨a5, h5⟩ := opens_field Try.underlying74 h 5 9 1 rfl (opens_bool Try.underlying4) cells4
    have h2' := k70_open h2
    have h5' : _ = [Value.bool a5] := h5
    simp only [List.drop_zero, List.drop_succ_cons, List.take_succ_cons, List.take_zero, List.cons.injEq, and_true] at h0 h1 h2' h3 h4 h5'
    obtain ⟨e2, e3, e4, e5, e6⟩ := h2'
    subst h0 h1 e2 e3 e4 e5 e6 h3 h4 h5'
    exact ⟨⟨a0, a1, a2, a3, a4, a5⟩, k74_mk w ⟨a0, a1, a2, a3, a4, a5⟩ l3 (kd_of_sc s3 (Nat.le_trans l3 m3)) l4 (kd_of_sc s4 (Nat.le_trans l4 m4))⟩
theorem opens76 : Opens (RK k76) 76 := fun enc w base spare held fuel cs x h => by
  obtain ⟨xs, n, _, _, hlen, _, _⟩ := DataW.trod_struct Try.underlying76 h
  rw [cells76] at hlen
  match cs, hlen with
  | [c0, c1, c2, c3, c4, c5, c6, c7, c8, c9, c10, c11, c12, c13, c14], _ =>
    obtain ⟨a0, h0, _⟩ := opens_field Try.underlying76 h 0 0 1 rfl (opens_str Try.underlying9) cells9
    obtain ⟨a1, h1, _⟩ := opens_field Try.underlying76 h 1 1 1 rfl (opens_int Try.underlying3) cells3
    obtain ⟨a2, h2, _⟩ := opens_field Try.underlying76 h 2 2 1 rfl (opens_int Try.underlying3) cells3
    obtain ⟨a3, h3⟩ := opens_field Try.underlying76 h 3 3 10 rfl opens74 cells74
    obtain ⟨a4, h4, _⟩ := opens_field Try.underlying76 h 4 13 1 rfl (opens_int Try.underlying3) cells3
    obtain ⟨a5, h5, _⟩ := opens_field Try.underlying76 h 5 14 1 rfl (opens_int Try.underlying3) cells3
    obtain ⟨A7, d7, A8, d8, h3', l7, g7, l8, g8⟩ := k74_open h3
    simp only [List.drop_zero, List.drop_succ_cons, List.take_succ_cons, List.take_zero, List.cons.injEq, and_true] at h0 h1 h2 h3' h4 h5
    obtain ⟨e0, e1, e2, e3, e4, e5, e6, e7, e8, e9⟩ := h3'
    subst h0 h1 h2 e0 e1 e2 e3 e4 e5 e6 e7 e8 e9 h4 h5
    exact ⟨⟨a0, a1, a2, a3, a4, a5⟩, k76_mk w ⟨a0, a1, a2, a3, a4, a5⟩ l7 g7 l8 g8⟩
theorem opens94 : Opens (RSlice (RK k135) 5) 94 := opens_slice Try.underlying94 opens135 cells135
theorem sc_rows {w : World} {A : Option Addr} {L : List (List S135)} (h : SC (RSlice (RK k135) 5) 1 w A L) (hl : L.length ≤ maxLen) : Kd.C (Kd.slice 135 k135) w A L.length L := by
  refine kd_of_sc (d := Kd.slice 135 k135) (fun j hj => ?_) hl
  obtain ⟨ad, cs, e, hlen, hc, A', c', e2, l2, m2, s2⟩ := h j hj
  exact ⟨ad, cs, e, hlen, hc, ⟨A', c', e2, l2, kd_of_sc s2 (Nat.le_trans l2 m2)⟩⟩
end Go.Proofs.Ytdpchfifaidamaa.L
