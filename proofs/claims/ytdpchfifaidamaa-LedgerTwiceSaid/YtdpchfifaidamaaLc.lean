/- The ledger's table: Total, New, Copy. No condition. -/
import Derived.Test.YtdpchfifaidamaaLb
import Derived.Test.YtdpchfifaidamaaU7
namespace Go.Proofs.Ytdpchfifaidamaa.L
open Go.RowKit Go.Maps Go.Proofs.YtdpchfifaidamaaW.PrintWords Go.Proofs.Ytdpchfifaidamaa.B Go.Proofs.Ytdpchfifaidamaa.U Go.Proofs.Ytdpchfifaidamaa.PLedgerTells
set_option linter.unusedVariables false
set_option linter.unusedSimpArgs false

/-- the sum of the first rows' sums. -/
def totR (R : List RV) : Nat → Int
  | 0 => 0
  | n + 1 => min (totR R n + (R.getD n zR).sum) 1125899906842624
theorem totR_bd {R : List RV} (h : ∀ i, 0 ≤ (R.getD i zR).sum) : ∀ n, 0 ≤ totR R n ∧ totR R n ≤ 1125899906842624
  | 0 => by unfold totR; omega
  | n + 1 => by have := totR_bd h n; have := h n; unfold totR; omega
set_option maxRecDepth 100000 in
set_option maxHeartbeats 2000000 in
theorem total_calls (w : World) (g : Nat) (v : Value) (base : Nat) (R : List RV) (ticks : Int) (h : LT w g v base R ticks) (hl : R.length ≤ 1000000) (hs : ∀ i, 0 ≤ (R.getD i zR).sum ∧ (R.getD i zR).sum ≤ 1125899906842624) :
    Calls Try.prog 66 #[.pointer (some ⟨g, 0, none⟩)] w fun e w' => e = .returned (.int .i64 (totR R R.length)) ∧ Fr no w w' := by
  have hu137 := Try.underlying137
  obtain ⟨A, c, hv, hlc, hcm, hr⟩ := h.own.form
  have HR := Aside0.mk hr
  have HS := Aside0.mk hs
  obtain ⟨hc0, -, hc2⟩ := h.cell
  rw [hv] at hc0
  clear h hr hcm hs hlc
  go_enter Try.func66, Try.ntmps66
  go_wp2_with (go_at_call 98; refine (there_calls _ g true hc2).mono ?_; rintro e w' ⟨rfl, rfl⟩)
  go_loopw [3, 5, 14] (fun v3 v5 v14 wr => ∃ i : Nat, i ≤ R.length ∧ v14 = .int .i64 i ∧ v3 = .int .i64 (totR R i) ∧ Aside0 (Fr no w wr)) (fun _ _ v14 _ => R.length - (intOf v14).toNat)
  case atStart => exact ⟨0, by omega, rfl, rfl, ⟨Fr.refl _ _⟩⟩
  case round =>
    obtain ⟨i, hi, rfl, rfl, HI⟩ := hrel
    by_cases hlt : i < R.length
    · obtain ⟨ad, e, hcell⟩ := HR.out i hlt
      subst e
      have f : ∀ j u, (E137.cells R[i])[j]? = some u → wr.cell? (ad.add (i * 5 + j)) = some u := fun j u hu => cell_fr (hcell j u hu) HI.out (fun h => h)
      have hq0 : wr.cell? (ad.add (i * 5)) = some (.string R[i].name) := f 0 _ rfl
      have hq1 : wr.cell? ⟨(ad.add (i * 5)).block, (ad.add (i * 5)).off + 1, none⟩ = some (.int .i64 R[i].price) := by rw [← add_field _ _ 1 (by omega)]; exact f 1 _ rfl
      have hq2 : wr.cell? ⟨(ad.add (i * 5)).block, (ad.add (i * 5)).off + 2, none⟩ = some (.int .i64 R[i].all) := by rw [← add_field _ _ 2 (by omega)]; exact f 2 _ rfl
      have hq3 : wr.cell? ⟨(ad.add (i * 5)).block, (ad.add (i * 5)).off + 3, none⟩ = some (.int .i64 R[i].peak) := by rw [← add_field _ _ 3 (by omega)]; exact f 3 _ rfl
      have hq4 : wr.cell? ⟨(ad.add (i * 5)).block, (ad.add (i * 5)).off + 4, none⟩ = some (.int .i64 R[i].sum) := by rw [← add_field _ _ 4 (by omega)]; exact f 4 _ rfl
      obtain ⟨x, hx⟩ : ∃ x, x = R[i] := ⟨_, rfl⟩
      rw [← hx] at hq0 hq1 hq2 hq3 hq4
      obtain ⟨t, ht⟩ : ∃ t, t = totR R i := ⟨_, rfl⟩
      rw [← ht]
      have hgd : R.getD i zR = x := by rw [getD_lt hlt, hx]
      have HN := Aside0.mk (show totR R (i + 1) = min (t + x.sum) 1125899906842624 from by rw [ht, ← hgd]; rfl)
      have htb := totR_bd (fun i => (HS.out i).1) i
      rw [← ht] at htb
      obtain ⟨ht0, ht1⟩ := htb
      have hxb := HS.out i
      rw [hgd] at hxb
      obtain ⟨hx0, hx1⟩ := hxb
      clear hcell f hx ht hgd
      go_wp2
      all_goals
        go_roundw
        case rel =>
          refine ⟨i + 1, by omega, by go_num, ?_, ⟨HI.out.then_ ((Fr.refl wr no).alloc _) (fun _ h => .inl h)⟩⟩
          rw [HN.out]
          congr 1
          (try split) <;> omega
        case measure => simp [intOf]; omega
    · obtain rfl : i = R.length := by omega
      go_wp2
      go_ret
      exact ⟨rfl, HI.out⟩

theorem fr_none {w w' : World} {n c : Nat} (h : Fr (fun k => (Value.slice none n c).ownBlock = some k) w w') : Fr no w w' := h.mono (fun k hk => by cases hk)
/-- Copy: another table that says the same. -/
def CopyPost (w : World) (R : List RV) (ticks : Int) (e : Ending) (w' : World) : Prop :=
  ∃ g v, e = .returned (.pointer (some ⟨g, 0, none⟩)) ∧ LT w' g v w.heap.size R ticks ∧ Fr no w w' ∧ w.heap.size ≤ g
set_option maxRecDepth 100000 in
set_option maxHeartbeats 2000000 in
theorem copy_calls (w : World) (g : Nat) (v : Value) (base : Nat) (R : List RV) (ticks : Int) (h : LT w g v base R ticks) (hl : R.length ≤ 1000000) :
    Calls Try.prog 59 #[.pointer (some ⟨g, 0, none⟩)] w (CopyPost w R ticks) := by
  have HL := Aside0.mk hl
  have HH := Aside0.mk h
  have hu103 := Try.underlying103
  obtain ⟨A, c, hv, hlc, hcm, hr⟩ := h.own.form
  have HR := Aside0.mk hr
  obtain ⟨hc0, hc1, hc2⟩ := h.cell
  rw [hv] at hc0
  have HC0 := Aside0.mk hc0
  have hba := heap_alloc_new w (.cells #[.slice A R.length c, .int .i64 ticks, .bool true] 103)
  have HBA := Aside0.mk hba
  clear h hr hcm hba hlc
  go_enter Try.func59, Try.ntmps59
  go_upto_region 4 with (first
    | (go_at_call 98; refine (there_calls _ g true hc2).mono ?_; rintro e w' ⟨rfl, rfl⟩))
  obtain ⟨wa, hwa⟩ : ∃ wa, wa = w.alloc (.cells #[.slice A R.length c, .int .i64 ticks, .bool true] 103) := ⟨_, rfl⟩
  have hfa : Fr no w wa := hwa ▸ (Fr.refl w no).alloc _
  obtain ⟨bx, hbx⟩ : ∃ bx, bx = w.heap.size := ⟨_, rfl⟩
  have HBX := Aside0.mk hbx
  rw [← hwa] at HBA ⊢
  rw [← hbx] at HBA ⊢
  have hd0 := cell_fr HC0.out hfa (fun h => h)
  have HRA := Aside0.mk (HR.out.no hfa)
  have HFA := Aside0.mk hfa
  have HSZ := Aside0.mk (show bx ≤ wa.heap.size from hbx ▸ hfa.size)
  have HLB := Aside0.mk (show (([] : List RV).length + R.length) * E137.bytes ≤ 140737488355328 from by have h9 := HL.out; show (0 + R.length) * 48 ≤ _; omega)
  clear hwa hbx hc0 hc1 hc2 hfa
  go_wp2_with (first
    | (at_builtin; refine wpL_append_els E137 bx rfl _ _ rfl _ [] R A c rfl rfl HRA.out (EOwn.nil _ _) HSZ.out HLB.out ?_; intro v1 w1 ho hf hat; obtain ⟨A1, c1, rfl, hle1, hcm1, hr1⟩ := ho.form; have HO := Aside0.mk ho; clear hle1 hcm1 hr1; have HF := Aside0.mk (fr_none hf); have hb1 := blk_fr HBA.out HF.out (fun h => h); have HB1 := Aside0.mk hb1; have hz1 : w1.frozen? ⟨bx, 0, none⟩ = false := blk_frozen hb1 0; have hz2 : w1.cell? ⟨bx, 0, none⟩ = some (.slice A R.length c) := (blk_cell hb1 0).trans rfl; clear ho hf hat hb1))
  go_ret
  have hlt : bx < w1.heap.size := blk_lt HB1.out
  have hfs : Fr (fun k => k = bx) w1 (w1.setCell ⟨bx, 0, none⟩ (.slice A1 ([] ++ R).length c1)) := (Fr.refl w1 (fun k => k = bx)).setCell (p := ⟨bx, 0, none⟩) (.inl rfl) _
  have hov : ∀ k, (Value.slice A1 ([] ++ R).length c1).ownBlock = some k → ¬ k = bx := by
    intro k hk e
    obtain ⟨cs, hcs⟩ := HO.out.cells hk
    rw [e, HB1.out] at hcs
    cases hcs
  refine ⟨bx, _, rfl, ⟨blk_set HB1.out 0 _, ?_, ?_⟩, ?_, by rw [HBX.out]; exact Nat.le_refl _⟩
  · rw [← HBX.out]
    have := HO.out.fr hfs hov
    simpa using this
  · exact Nat.le_trans HFA.out.size (Nat.le_trans HF.out.size hfs.size)
  · have h1 := HFA.out.then_ HF.out (fun _ h => .inl h)
    exact Fr.of_below (((h1.mono (S' := fun k => k = bx) (fun _ h => h.elim)).then_ hfs (fun k hk => .inl hk)).to_below (fun k hk => by rw [hk, HBX.out]; exact Nat.le_refl _)) _
end Go.Proofs.Ytdpchfifaidamaa.L
