/- The walks of spec.RightMachine, spec.RightGroup, group.Right. No condition. -/
import Derived.Test.YtdpchfifaidamaaU5
namespace Go.Proofs.Ytdpchfifaidamaa.U
open Go.RowKit Go.Maps Go.Proofs.YtdpchfifaidamaaW.PrintWords Go.Proofs.YtdpchfifaidamaaW.PrintLast Go.Proofs.Ytdpchfifaidamaa.B Go.Proofs.Ytdpchfifaidamaa.PLedgerTells
set_option linter.unusedVariables false
set_option linter.unusedSimpArgs false

/-- a machine's cells. -/
def mCells (m : S74) (A3 : Option Addr) (c3 : Nat) (A4 : Option Addr) (c4 : Nat) : List Value := [.string m.f0, .string m.f1, .int .i64 m.f2.f0, .int .i64 m.f2.f1, .int .i64 m.f2.f2, .int .i64 m.f2.f3, .int .i64 m.f2.f4, .slice A3 m.f3.length c3, .slice A4 m.f4.length c4, .bool m.f5]
/-- what a machine's cells lead to. -/
structure MLead (w : World) (m : S74) (A3 : Option Addr) (c3 : Nat) (A4 : Option Addr) (c4 : Nat) : Prop where
  l : Kd.C k83 w A3 m.f3.length m.f3
  t : Kd.C k157 w A4 m.f4.length m.f4
  lc : m.f3.length ≤ c3
  tc : m.f4.length ≤ c4
  ll : m.f3.length ≤ 1000000
  tl : m.f4.length ≤ 1000000
  ok : OkM m
theorem MLead.no {w w' : World} {m : S74} {A3 : Option Addr} {c3 : Nat} {A4 : Option Addr} {c4 : Nat} (h : MLead w m A3 c3 A4 c4) (hk : Fr no w w') : MLead w' m A3 c3 A4 c4 :=
  ⟨Kd.C_below h.l hk.no_below, Kd.C_below h.t hk.no_below, h.lc, h.tc, h.ll, h.tl, h.ok⟩
set_option maxRecDepth 100000 in
set_option maxHeartbeats 2000000 in
theorem machine_calls (w : World) (m : S74) (A3 : Option Addr) (c3 : Nat) (A4 : Option Addr) (c4 : Nat) (H : MLead w m A3 c3 A4 c4) :
    Calls Try.prog 139 #[.agg #[.string m.f0, .string m.f1, .int .i64 m.f2.f0, .int .i64 m.f2.f1, .int .i64 m.f2.f2, .int .i64 m.f2.f3, .int .i64 m.f2.f4, .slice A3 m.f3.length c3, .slice A4 m.f4.length c4, .bool m.f5]] w
      fun e w' => e = .returned (.bool (machB m)) ∧ Fr no w w' := by
  have HH := Aside0.mk H
  have hu74 := Try.underlying74
  have hu70 := Try.underlying70
  have HB := Aside0.mk (show machB m = (maybeB m.f0 && (maybeB m.f1 && (resB m.f2 && (labelsB m.f3 && taintsB m.f4)))) from rfl)
  have hba := heap_alloc_new w (.cells #[.string m.f0, .string m.f1, .int .i64 m.f2.f0, .int .i64 m.f2.f1, .int .i64 m.f2.f2, .int .i64 m.f2.f3, .int .i64 m.f2.f4, .slice A3 m.f3.length c3, .slice A4 m.f4.length c4, .bool m.f5] 74)
  obtain ⟨wa, hwa⟩ : ∃ wa, wa = w.alloc (.cells #[.string m.f0, .string m.f1, .int .i64 m.f2.f0, .int .i64 m.f2.f1, .int .i64 m.f2.f2, .int .i64 m.f2.f3, .int .i64 m.f2.f4, .slice A3 m.f3.length c3, .slice A4 m.f4.length c4, .bool m.f5] 74) := ⟨_, rfl⟩
  rw [← hwa] at hba
  have HWA := Aside0.mk (show Fr no w wa from hwa ▸ (Fr.refl w no).alloc _)
  have HBA := Aside0.mk hba
  have hz0 : wa.cell? ⟨w.heap.size, 0, none⟩ = some (.string m.f0) := (blk_cell hba 0).trans rfl
  have HE := Aside0.mk hwa
  clear H hba hwa
  obtain ⟨b1, h1⟩ : ∃ b, b = maybeB m.f0 := ⟨_, rfl⟩
  obtain ⟨b2, h2⟩ : ∃ b, b = maybeB m.f1 := ⟨_, rfl⟩
  obtain ⟨b3, h3⟩ : ∃ b, b = resB m.f2 := ⟨_, rfl⟩
  obtain ⟨b4, h4⟩ : ∃ b, b = labelsB m.f3 := ⟨_, rfl⟩
  obtain ⟨b5, h5⟩ : ∃ b, b = taintsB m.f4 := ⟨_, rfl⟩
  rw [← h1, ← h2, ← h3, ← h4, ← h5] at HB
  have H1 := Aside0.mk h1.symm
  have H2 := Aside0.mk h2.symm
  have H3 := Aside0.mk h3.symm
  have H4 := Aside0.mk h4.symm
  have H5 := Aside0.mk h5.symm
  clear h1 h2 h3 h4 h5
  have leaves : (b1 = false) ∨ (b1 = true ∧ b2 = false) ∨ (b1 = true ∧ b2 = true ∧ b3 = false) ∨ (b1 = true ∧ b2 = true ∧ b3 = true ∧ b4 = false) ∨ (b1 = true ∧ b2 = true ∧ b3 = true ∧ b4 = true) := by
    cases b1 <;> cases b2 <;> cases b3 <;> cases b4 <;> simp
  rcases leaves with rfl | ⟨rfl, rfl⟩ | ⟨rfl, rfl, rfl⟩ | ⟨rfl, rfl, rfl, rfl⟩ | ⟨rfl, rfl, rfl, rfl⟩
  all_goals
    go_enter Try.func139, Try.ntmps139
    go_upto_region 1 with fail
    rw [← HE.out]
    have HA := Aside0.mk (Fr.refl wa no)
    clear HE
    go_wp2_with (first
      | (go_at_call_of 148 (Value.string m.f0); refine (smaybe_calls m.f0 _ HH.out.ok.name).mono ?_; rintro e w3 ⟨rfl, hf3⟩; rw [H1.out]; replace HA := Aside0.mk (HA.out.then_ hf3 (fun _ h => .inl h)); clear hf3; have hb := blk_fr HBA.out HA.out (fun h => h); have hy1 : w3.cell? ⟨w.heap.size, 1, none⟩ = some (.string m.f1) := (blk_cell hb 1).trans rfl; clear hb hz0)
      | (go_at_call_of 148 (Value.string m.f1); refine (smaybe_calls m.f1 _ HH.out.ok.group).mono ?_; rintro e w4 ⟨rfl, hf4⟩; rw [H2.out]; replace HA := Aside0.mk (HA.out.then_ hf4 (fun _ h => .inl h)); clear hf4; have hb := blk_fr HBA.out HA.out (fun h => h); have hy2 : w4.cell? ⟨w.heap.size, 2, none⟩ = some (.int .i64 m.f2.f0) := (blk_cell hb 2).trans rfl; have hy3 : w4.cell? ⟨w.heap.size, 3, none⟩ = some (.int .i64 m.f2.f1) := (blk_cell hb 3).trans rfl; have hy4 : w4.cell? ⟨w.heap.size, 4, none⟩ = some (.int .i64 m.f2.f2) := (blk_cell hb 4).trans rfl; have hy5 : w4.cell? ⟨w.heap.size, 5, none⟩ = some (.int .i64 m.f2.f3) := (blk_cell hb 5).trans rfl; have hy6 : w4.cell? ⟨w.heap.size, 6, none⟩ = some (.int .i64 m.f2.f4) := (blk_cell hb 6).trans rfl; clear hb hy1)
      | (go_at_call 149; refine (res_calls m.f2 _).mono ?_; rintro e w5 ⟨rfl, hf5⟩; rw [H3.out]; replace HA := Aside0.mk (HA.out.then_ hf5 (fun _ h => .inl h)); clear hf5; have hb := blk_fr HBA.out HA.out (fun h => h); have hy7 : w5.cell? ⟨w.heap.size, 7, none⟩ = some (.slice A3 m.f3.length c3) := (blk_cell hb 7).trans rfl; clear hb hy2 hy3 hy4 hy5 hy6)
      | (go_at_call 73; refine (labels_calls _ A3 c3 m.f3 (Kd.C_below (Kd.C_below HH.out.l HWA.out.no_below) HA.out.no_below) HH.out.lc HH.out.ll HH.out.ok.labels).mono ?_; rintro e w6 ⟨rfl, hf6⟩; rw [H4.out]; replace HA := Aside0.mk (HA.out.then_ hf6 (fun _ h => .inl h)); clear hf6; have hb := blk_fr HBA.out HA.out (fun h => h); have hy8 : w6.cell? ⟨w.heap.size, 8, none⟩ = some (.slice A4 m.f4.length c4) := (blk_cell hb 8).trans rfl; clear hb hy7)
      | (go_at_call 150; refine (taints_calls _ A4 c4 m.f4 (Kd.C_below (Kd.C_below HH.out.t HWA.out.no_below) HA.out.no_below) HH.out.tc HH.out.tl HH.out.ok.taints).mono ?_; rintro e w7 ⟨rfl, hf7⟩; rw [H5.out]; replace HA := Aside0.mk (HA.out.then_ hf7 (fun _ h => .inl h)); clear hf7 hy8))
    go_ret
    exact ⟨by rw [HB.out]; simp, HWA.out.then_ HA.out (fun _ h => .inl h)⟩
theorem between_calls (a b c : Int) (w : World) : Calls Try.prog 138 #[.int .i64 a, .int .i64 b, .int .i64 c] w fun e w' => e = .returned (.bool (betB a b c)) ∧ Drawn0 w w' :=
  spec_between.calls a b c (betB a b c) w (in_f a b c)
theorem empty_iff (s : ByteArray) : s = ⟨#[]⟩ ↔ s.toList = [] := by
  constructor
  · rintro rfl; simp [ByteArray.toList_eq]
  · intro h; exact toList_eq.1 (h.trans (by simp [ByteArray.toList_eq]))
set_option maxRecDepth 100000 in
set_option maxHeartbeats 4000000 in
theorem group_calls (w : World) (g : S76) (A3 : Option Addr) (c3 : Nat) (A4 : Option Addr) (c4 : Nat) (H : MLead w g.f3 A3 c3 A4 c4) (hn : g.f0.size ≤ 4611686018427387904) :
    Calls Try.prog 118 #[.agg #[.string g.f0, .int .i64 g.f1, .int .i64 g.f2, .string g.f3.f0, .string g.f3.f1, .int .i64 g.f3.f2.f0, .int .i64 g.f3.f2.f1, .int .i64 g.f3.f2.f2, .int .i64 g.f3.f2.f3, .int .i64 g.f3.f2.f4, .slice A3 g.f3.f3.length c3, .slice A4 g.f3.f4.length c4, .bool g.f3.f5, .int .i64 g.f4, .int .i64 g.f5]] w
      fun e w' => e = .returned (.bool (groupB g)) ∧ Fr no w w' := by
  have HH := Aside0.mk H
  have HN := Aside0.mk hn
  have hu74 := Try.underlying74
  have hu76 := Try.underlying76
  obtain ⟨wa, hwa⟩ : ∃ wa, wa = w.alloc (.cells #[.string g.f0, .int .i64 g.f1, .int .i64 g.f2, .string g.f3.f0, .string g.f3.f1, .int .i64 g.f3.f2.f0, .int .i64 g.f3.f2.f1, .int .i64 g.f3.f2.f2, .int .i64 g.f3.f2.f3, .int .i64 g.f3.f2.f4, .slice A3 g.f3.f3.length c3, .slice A4 g.f3.f4.length c4, .bool g.f3.f5, .int .i64 g.f4, .int .i64 g.f5] 76) := ⟨_, rfl⟩
  have hba : wa.heap[w.heap.size]? = some (.cells #[.string g.f0, .int .i64 g.f1, .int .i64 g.f2, .string g.f3.f0, .string g.f3.f1, .int .i64 g.f3.f2.f0, .int .i64 g.f3.f2.f1, .int .i64 g.f3.f2.f2, .int .i64 g.f3.f2.f3, .int .i64 g.f3.f2.f4, .slice A3 g.f3.f3.length c3, .slice A4 g.f3.f4.length c4, .bool g.f3.f5, .int .i64 g.f4, .int .i64 g.f5] 76 (0, 0)) := hwa ▸ heap_alloc_new w _
  obtain ⟨wb, hwb⟩ : ∃ wb, wb = wa.alloc (.cells #[.string g.f3.f0, .string g.f3.f1, .int .i64 g.f3.f2.f0, .int .i64 g.f3.f2.f1, .int .i64 g.f3.f2.f2, .int .i64 g.f3.f2.f3, .int .i64 g.f3.f2.f4, .slice A3 g.f3.f3.length c3, .slice A4 g.f3.f4.length c4, .bool g.f3.f5] 74) := ⟨_, rfl⟩
  have hbb : wb.heap[wa.heap.size]? = some (.cells #[.string g.f3.f0, .string g.f3.f1, .int .i64 g.f3.f2.f0, .int .i64 g.f3.f2.f1, .int .i64 g.f3.f2.f2, .int .i64 g.f3.f2.f3, .int .i64 g.f3.f2.f4, .slice A3 g.f3.f3.length c3, .slice A4 g.f3.f4.length c4, .bool g.f3.f5] 74 (0, 0)) := hwb ▸ heap_alloc_new wa _
  have hab : Fr no wa wb := hwb ▸ (Fr.refl wa no).alloc _
  have HWA := Aside0.mk (show Fr no w wb from (show Fr no w wa from hwa ▸ (Fr.refl w no).alloc _).then_ hab (fun _ h => .inl h))
  have HBA := Aside0.mk (blk_fr hba hab (fun h => h))
  have HBB := Aside0.mk hbb
  obtain ⟨g1, hg1⟩ : ∃ g1, g1 = w.heap.size := ⟨_, rfl⟩
  obtain ⟨g2, hg2⟩ : ∃ g2, g2 = wa.heap.size := ⟨_, rfl⟩
  have hg12 : g2 = w.heap.size + 1 := by rw [hg2, hwa]; simp
  rw [← hg1] at HBA
  rw [← hg2] at HBB
  have hz0 : wb.cell? ⟨g1, 0, none⟩ = some (.string g.f0) := (blk_cell HBA.out 0).trans rfl
  have HE1 := Aside0.mk hwa
  have HE2 := Aside0.mk hwb
  have HG1 := Aside0.mk hg1
  have HG2 := Aside0.mk hg12
  clear H hn hba hwa hbb hab hwb hg1 hg2 hg12
  obtain ⟨b1, h1⟩ : ∃ b, b = wordB g.f0 := ⟨_, rfl⟩
  obtain ⟨b2, h2⟩ : ∃ b, b = decide (g.f3.f0 = ⟨#[]⟩) := ⟨_, rfl⟩
  obtain ⟨b3, h3⟩ : ∃ b, b = decide (g.f3.f1 = g.f0) := ⟨_, rfl⟩
  obtain ⟨b4, h4⟩ : ∃ b, b = g.f3.f5 := ⟨_, rfl⟩
  obtain ⟨b5, h5⟩ : ∃ b, b = betB g.f2 1 200 := ⟨_, rfl⟩
  obtain ⟨b6, h6⟩ : ∃ b, b = betB g.f1 0 g.f2 := ⟨_, rfl⟩
  obtain ⟨b7, h7⟩ : ∃ b, b = betB g.f4 0 1125899906842624 := ⟨_, rfl⟩
  obtain ⟨b8, h8⟩ : ∃ b, b = betB g.f5 0 1000 := ⟨_, rfl⟩
  obtain ⟨b9, h9⟩ : ∃ b, b = machB g.f3 := ⟨_, rfl⟩
  have HB := Aside0.mk (show groupB g = (b1 && (b5 && (b6 && (b7 && (b8 && (b9 && (b2 && (b3 && b4)))))))) from by rw [h1, h2, h3, h4, h5, h6, h7, h8, h9]; rfl)
  have q2 : g.f3.f0.toList.isEmpty = b2 := by
    rw [h2]
    by_cases e : g.f3.f0 = ⟨#[]⟩
    · rw [decide_eq_true e, (empty_iff _).1 e]; rfl
    · rw [decide_eq_false e]
      simpa using fun h => e ((empty_iff _).2 h)
  have q3 : (g.f3.f1.toList == g.f0.toList) = b3 := by
    rw [h3, Bool.eq_iff_iff]
    simp only [decide_eq_true_eq, beq_iff_eq]
    exact toList_eq
  have H1 := Aside0.mk h1.symm
  have H5 := Aside0.mk h5.symm
  have H6 := Aside0.mk h6.symm
  have H7 := Aside0.mk h7.symm
  have H8 := Aside0.mk h8.symm
  have H9 := Aside0.mk h9.symm
  have Q2 := Aside0.mk q2
  have Q3 := Aside0.mk q3
  have Q4 := Aside0.mk h4.symm
  clear h1 h2 h3 h4 h5 h6 h7 h8 h9 q2 q3
  have leaves : (b1 = false) ∨ (b1 = true ∧ b2 = false) ∨ (b1 = true ∧ b2 = true ∧ b3 = false) ∨ (b1 = true ∧ b2 = true ∧ b3 = true ∧ b4 = false) ∨ (b1 = true ∧ b2 = true ∧ b3 = true ∧ b4 = true ∧ b5 = false) ∨ (b1 = true ∧ b2 = true ∧ b3 = true ∧ b4 = true ∧ b5 = true ∧ b6 = false) ∨ (b1 = true ∧ b2 = true ∧ b3 = true ∧ b4 = true ∧ b5 = true ∧ b6 = true ∧ b7 = false) ∨ (b1 = true ∧ b2 = true ∧ b3 = true ∧ b4 = true ∧ b5 = true ∧ b6 = true ∧ b7 = true ∧ b8 = false) ∨ (b1 = true ∧ b2 = true ∧ b3 = true ∧ b4 = true ∧ b5 = true ∧ b6 = true ∧ b7 = true ∧ b8 = true) := by
    cases b1 <;> cases b2 <;> cases b3 <;> cases b4 <;> cases b5 <;> cases b6 <;> cases b7 <;> cases b8 <;> simp
  rcases leaves with rfl | ⟨rfl, rfl⟩ | ⟨rfl, rfl, rfl⟩ | ⟨rfl, rfl, rfl, rfl⟩ | ⟨rfl, rfl, rfl, rfl, rfl⟩ | ⟨rfl, rfl, rfl, rfl, rfl, rfl⟩ | ⟨rfl, rfl, rfl, rfl, rfl, rfl, rfl⟩ | ⟨rfl, rfl, rfl, rfl, rfl, rfl, rfl, rfl⟩ | ⟨rfl, rfl, rfl, rfl, rfl, rfl, rfl, rfl⟩
  all_goals
    go_enter Try.func118, Try.ntmps118
    go_upto_region 2 with fail
    rw [← HE1.out, ← HE2.out, ← HG2.out, ← HG1.out]
    have HA := Aside0.mk (Fr.refl wb no)
    clear HE1 HE2
    have HC139 := Aside0.mk (fun (W : World) (h : Fr no wb W) => machine_calls W g.f3 A3 c3 A4 c4 ((HH.out.no HWA.out).no h))
    rw [Q4.out, H9.out] at HC139
    have p2 := Q2.out
    have p4 := Q4.out
    have p3 := Q3.out
    have p3' : (g.f3.f1.toList != g.f0.toList) = !(g.f3.f1.toList == g.f0.toList) := rfl
    rw [p3] at p3'
    try simp only [List.isEmpty_iff] at p2
    go_wp2_with (first
      | (go_at_call 110; refine (word_calls g.f0 _ HN.out).mono ?_; rintro e w3 ⟨rfl, hf3⟩; rw [H1.out]; replace HA := Aside0.mk (HA.out.then_ hf3 (fun _ h => .inl h)); clear hf3 hz0; have hb := blk_fr HBA.out HA.out (fun h => h); have hy0 : w3.cell? ⟨g1, 0, none⟩ = some (.string g.f0) := (blk_cell hb 0).trans rfl; have hy1 : w3.cell? ⟨g1, 1, none⟩ = some (.int .i64 g.f1) := (blk_cell hb 1).trans rfl; have hy2 : w3.cell? ⟨g1, 2, none⟩ = some (.int .i64 g.f2) := (blk_cell hb 2).trans rfl; have hy13 : w3.cell? ⟨g1, 13, none⟩ = some (.int .i64 g.f4) := (blk_cell hb 13).trans rfl; have hy14 : w3.cell? ⟨g1, 14, none⟩ = some (.int .i64 g.f5) := (blk_cell hb 14).trans rfl; clear hb; have hb := blk_fr HBB.out HA.out (fun h => h); have hx0 : w3.cell? ⟨g2, 0, none⟩ = some (.string g.f3.f0) := (blk_cell hb 0).trans rfl; have hx1 : w3.cell? ⟨g2, 1, none⟩ = some (.string g.f3.f1) := (blk_cell hb 1).trans rfl; have hx2 : w3.cell? ⟨g2, 2, none⟩ = some (.int .i64 g.f3.f2.f0) := (blk_cell hb 2).trans rfl; have hx3 : w3.cell? ⟨g2, 3, none⟩ = some (.int .i64 g.f3.f2.f1) := (blk_cell hb 3).trans rfl; have hx4 : w3.cell? ⟨g2, 4, none⟩ = some (.int .i64 g.f3.f2.f2) := (blk_cell hb 4).trans rfl; have hx5 : w3.cell? ⟨g2, 5, none⟩ = some (.int .i64 g.f3.f2.f3) := (blk_cell hb 5).trans rfl; have hx6 : w3.cell? ⟨g2, 6, none⟩ = some (.int .i64 g.f3.f2.f4) := (blk_cell hb 6).trans rfl; have hx7 : w3.cell? ⟨g2, 7, none⟩ = some (.slice A3 g.f3.f3.length c3) := (blk_cell hb 7).trans rfl; have hx8 : w3.cell? ⟨g2, 8, none⟩ = some (.slice A4 g.f3.f4.length c4) := (blk_cell hb 8).trans rfl; have hx9 : w3.cell? ⟨g2, 9, none⟩ = some (.bool g.f3.f5) := (blk_cell hb 9).trans rfl; clear hb)
      | (go_at_call_of 138 (Value.int IntKind.i64 g.f1); refine (between_calls _ _ _ _).mono ?_; rintro e w' ⟨rfl, ⟨md, rfl⟩⟩; rw [H6.out])
      | (go_at_call_of 138 (Value.int IntKind.i64 g.f2); refine (between_calls _ _ _ _).mono ?_; rintro e w' ⟨rfl, ⟨md, rfl⟩⟩; rw [H5.out])
      | (go_at_call_of 138 (Value.int IntKind.i64 g.f4); refine (between_calls _ _ _ _).mono ?_; rintro e w' ⟨rfl, ⟨md, rfl⟩⟩; rw [H7.out])
      | (go_at_call_of 138 (Value.int IntKind.i64 g.f5); refine (between_calls _ _ _ _).mono ?_; rintro e w' ⟨rfl, ⟨md, rfl⟩⟩; rw [H8.out])
      | (go_at_call 139; refine (HC139.out _ (HA.out.drewN _)).mono ?_; rintro e w7 ⟨rfl, hf7⟩; replace HA := Aside0.mk ((HA.out.drewN _).then_ hf7 (fun _ h => .inl h)); clear hf7))
    go_ret
    exact ⟨by rw [HB.out]; simp, HWA.out.then_ (by first | exact HA.out | exact HA.out.drewN _) (fun _ h => .inl h)⟩
end Go.Proofs.Ytdpchfifaidamaa.U
