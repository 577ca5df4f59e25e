/- The ledger's functions at a table that is not there. No condition. -/
import Derived.Test.YtdpchfifaidamaaLf
namespace Go.Proofs.Ytdpchfifaidamaa.L
open Go.RowKit Go.Maps Go.Proofs.YtdpchfifaidamaaW.PrintWords Go.Proofs.Ytdpchfifaidamaa.B Go.Proofs.Ytdpchfifaidamaa.U Go.Proofs.Ytdpchfifaidamaa.PLedgerTells
set_option linter.unusedVariables false
set_option linter.unusedSimpArgs false

/-- a table that is not there, and stays so. -/
def Gone (w : World) (p : Option Addr) : Prop := ∀ W, Fr no w W → Calls Try.prog 98 #[.pointer p] W fun e w' => e = .returned (.bool false) ∧ W = w'
theorem gone_nil (w : World) : Gone w none := fun W _ => there_nil W
theorem gone_zero {w : World} {g : Nat} (h : w.cell? ⟨g, 2, none⟩ = some (.bool false)) : Gone w (some ⟨g, 0, none⟩) := fun W hf => there_calls W g false (cell_fr h hf (fun h => h))
theorem Gone.fr {w W : World} {p : Option Addr} (h : Gone w p) (hf : Fr no w W) : Gone W p := fun W2 h2 => h W2 (hf.then_ h2 (fun _ h => .inl h))
theorem ticks_gone (w : World) (p : Option Addr) (h : Gone w p) : Calls Try.prog 68 #[.pointer p] w fun e w' => e = .returned (.int .i64 0) ∧ Fr no w w' := by
  have HG := Aside0.mk h
  clear h
  go_enter Try.func68, Try.ntmps68
  go_wp2_with (go_at_call 98; refine (HG.out _ (Fr.refl _ _)).mono ?_; rintro e w' ⟨rfl, rfl⟩)
  go_ret
  exact ⟨rfl, Fr.refl _ _⟩
theorem add_gone (w : World) (p : Option Addr) (A : Option Addr) (n c : Nat) (h : Gone w p) : Calls Try.prog 57 #[.pointer p, .slice A n c] w fun e w' => e = .returned (.tuple #[]) ∧ Fr no w w' := by
  have HG := Aside0.mk h
  clear h
  go_enter Try.func57, Try.ntmps57
  go_wp2_with (go_at_call 98; refine (HG.out _ (Fr.refl _ _)).mono ?_; rintro e w' ⟨rfl, rfl⟩)
  exact ret0 rfl rfl ⟨rfl, Fr.refl _ _⟩
theorem copy_gone (w : World) (p : Option Addr) (h : Gone w p) : Calls Try.prog 59 #[.pointer p] w fun e w' => e = .returned (.pointer none) ∧ Fr no w w' := by
  have HG := Aside0.mk h
  clear h
  go_enter Try.func59, Try.ntmps59
  go_wp2_with (go_at_call 98; refine (HG.out _ (Fr.refl _ _)).mono ?_; rintro e w' ⟨rfl, rfl⟩)
  go_ret
  exact ⟨rfl, Fr.refl _ _⟩
theorem total_gone (w : World) (p : Option Addr) (h : Gone w p) : Calls Try.prog 66 #[.pointer p] w fun e w' => e = .returned (.int .i64 0) ∧ Fr no w w' := by
  have HG := Aside0.mk h
  clear h
  go_enter Try.func66, Try.ntmps66
  go_wp2_with (go_at_call 98; refine (HG.out _ (Fr.refl _ _)).mono ?_; rintro e w' ⟨rfl, rfl⟩)
  go_ret
  exact ⟨rfl, Fr.refl _ _⟩
set_option maxRecDepth 100000 in
set_option maxHeartbeats 2000000 in
theorem of_gone (w : World) (p : Option Addr) (s : ByteArray) (h : Gone w p) : Calls Try.prog 100 #[.pointer p, .string s] w (OfPost w zR) := by
  have HG := Aside0.mk h
  have hu137 := Try.underlying137
  have hbx := heap_alloc_new w (.cells #[.string ⟨#[]⟩, .int .i64 0, .int .i64 0, .int .i64 0, .int .i64 0] 137)
  have HB := Aside0.mk hbx
  have h98 := h _ ((Fr.refl w no).alloc (.cells #[.string ⟨#[]⟩, .int .i64 0, .int .i64 0, .int .i64 0, .int .i64 0] 137))
  clear h hbx
  go_enter Try.func100, Try.ntmps100
  go_upto_region 8 with (go_at_call 98; refine h98.mono ?_; rintro e w' ⟨rfl, rfl⟩)
  clear h98
  all_goals
    obtain ⟨bx, hbxe⟩ : ∃ bx, bx = w.heap.size := ⟨_, rfl⟩
    obtain ⟨wa, hwa⟩ : ∃ wa, wa = w.alloc (.cells #[.string ⟨#[]⟩, .int .i64 0, .int .i64 0, .int .i64 0, .int .i64 0] 137) := ⟨_, rfl⟩
    have HE := Aside0.mk hbxe
    have HW := Aside0.mk (show Fr no w wa from hwa ▸ (Fr.refl w no).alloc _)
    rw [← hbxe, ← hwa] at HB
    rw [← hbxe, ← hwa]
    have hz0 : wa.cell? ⟨bx, 0, none⟩ = some (.string ⟨#[]⟩) := (blk_cell HB.out 0).trans rfl
    have hz1 : wa.cell? ⟨bx, 1, none⟩ = some (.int .i64 0) := (blk_cell HB.out 1).trans rfl
    have hz2 : wa.cell? ⟨bx, 2, none⟩ = some (.int .i64 0) := (blk_cell HB.out 2).trans rfl
    have hz3 : wa.cell? ⟨bx, 3, none⟩ = some (.int .i64 0) := (blk_cell HB.out 3).trans rfl
    have hz4 : wa.cell? ⟨bx, 4, none⟩ = some (.int .i64 0) := (blk_cell HB.out 4).trans rfl
    have hf0 := blk_frozen HB.out 0
    have hf1 := blk_frozen HB.out 1
    have hf2 := blk_frozen HB.out 2
    have hf3 := blk_frozen HB.out 3
    have hf4 := blk_frozen HB.out 4
    have hfin : (((((wa.setCell ⟨bx, 0, none⟩ (.string ⟨#[]⟩)).setCell ⟨bx, 1, none⟩ (.int .i64 0)).setCell ⟨bx, 2, none⟩ (.int .i64 0)).setCell ⟨bx, 3, none⟩ (.int .i64 0)).setCell ⟨bx, 4, none⟩ (.int .i64 0)).heap[bx]? = some (.cells #[.string ⟨#[]⟩, .int .i64 0, .int .i64 0, .int .i64 0, .int .i64 0] 137 (0, 0)) := by
      have := blk_set (blk_set (blk_set (blk_set (blk_set HB.out 0 (.string ⟨#[]⟩)) 1 (.int .i64 0)) 2 (.int .i64 0)) 3 (.int .i64 0)) 4 (.int .i64 0)
      simpa using this
    have HFIN := Aside0.mk hfin
    clear hfin hbxe hwa
    go_wp2
    refine bodyPost_ret (results_cell_row rfl _ _ bx 137 #[.string ⟨#[]⟩, .int .i64 0, .int .i64 0, .int .i64 0, .int .i64 0] (0, 0) _ rfl HFIN.out Try.underlying137 rfl (by kernel_rfl)) rfl ?_
    refine ⟨rfl, ?_⟩
    have hge : w.heap.size ≤ bx := by rw [HE.out]; exact Nat.le_refl _
    have h2 : Fr (fun k => k = bx) w _ := (((((HW.out.mono (S' := fun k => k = bx) (fun _ h => h.elim)).setCell (p := ⟨bx, 0, none⟩) (.inl rfl) (.string ⟨#[]⟩)).setCell (p := ⟨bx, 1, none⟩) (.inl rfl) (.int .i64 0)).setCell (p := ⟨bx, 2, none⟩) (.inl rfl) (.int .i64 0)).setCell (p := ⟨bx, 3, none⟩) (.inl rfl) (.int .i64 0)).setCell (p := ⟨bx, 4, none⟩) (.inl rfl) (.int .i64 0)
    exact Fr.of_below (h2.to_below (fun k hk => by rw [hk]; exact hge)) _
set_option maxRecDepth 100000 in
theorem sum_gone (w : World) (p : Option Addr) (s : ByteArray) (h : Gone w p) : Calls Try.prog 60 #[.pointer p, .string s] w fun e w' => e = .returned (.int .i64 0) ∧ Fr no w w' := by
  have HG := Aside0.mk h
  have hu137 := Try.underlying137
  have hfd1 := hfd
  clear h
  go_enter Try.func60, Try.ntmps60
  go_wp2_with (go_at_call 100; refine (of_gone _ p s HG.out).mono ?_; rintro e w' ⟨rfl, hf⟩; have HF := Aside0.mk hf; clear hf)
  go_ret
  exact ⟨rfl, HF.out⟩
set_option maxRecDepth 100000 in
theorem peak_gone (w : World) (p : Option Addr) (s : ByteArray) (h : Gone w p) : Calls Try.prog 62 #[.pointer p, .string s] w fun e w' => e = .returned (.int .i64 0) ∧ Fr no w w' := by
  have HG := Aside0.mk h
  have hu137 := Try.underlying137
  have hfd1 := hfp
  clear h
  go_enter Try.func62, Try.ntmps62
  go_wp2_with (go_at_call 100; refine (of_gone _ p s HG.out).mono ?_; rintro e w' ⟨rfl, hf⟩; have HF := Aside0.mk hf; clear hf)
  go_ret
  exact ⟨rfl, HF.out⟩
theorem mean_gone (w : World) (p : Option Addr) (s : ByteArray) (h : Gone w p) : Calls Try.prog 64 #[.pointer p, .string s] w fun e w' => e = .returned (.float .f64 0) ∧ Fr no w w' := by
  have HG := Aside0.mk h
  clear h
  go_enter Try.func64, Try.ntmps64
  go_wp2_with (go_at_call 68; refine (ticks_gone _ p HG.out).mono ?_; rintro e w' ⟨rfl, hf⟩; have HF := Aside0.mk hf; clear hf)
  go_ret
  exact ⟨rfl, HF.out⟩
end Go.Proofs.Ytdpchfifaidamaa.L
