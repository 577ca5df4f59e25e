/- The contract of the timer's Copy. No condition. -/
import Derived.Test.YtdpchfifaidamaaTe
namespace Go.Proofs.Ytdpchfifaidamaa.T
open Go.RowKit Go.Maps Go.Proofs.YtdpchfifaidamaaW.PrintWords Go.Proofs.Ytdpchfifaidamaa.B
set_option linter.unusedVariables false
set_option linter.unusedSimpArgs false

structure CI (w wr : World) (b r g1 b1 n : Nat) (f : ByteArray → Option Int) (left : ByteArray → Bool) (cnt : Nat) (fo : ByteArray → Option Int) : Prop where
  rg : RangeIs wr b r n f left cnt
  tt : TT wr g1 b1 (n - cnt) fo
  len : cnt ≤ n
  eq : ∀ s, s.size ≤ maxLen → fo s = if left s then none else f s
  fr : Fr no w wr
def CopyPost (w : World) (n : Nat) (f : ByteArray → Option Int) (e : Ending) (w' : World) : Prop :=
  ∃ g b, e = .returned (.pointer (some ⟨g, 0, none⟩)) ∧ TT w' g b n f ∧ Fr no w w' ∧ w.heap.size ≤ g ∧ w.heap.size ≤ b

set_option maxRecDepth 100000 in
set_option maxHeartbeats 2000000 in
theorem copy_yes (w : World) (g b n : Nat) (f : ByteArray → Option Int) (H : TT w g b n f) (hn : n < 1000000000) :
    Calls Try.prog 42 #[.pointer (some ⟨g, 0, none⟩)] w (CopyPost w n f) := by
  have HH := Aside0.mk H
  have hc0 : w.cell? ⟨g, 0, none⟩ = some (.map (some b)) := (blk_cell H.blk 0).trans rfl
  have HN := Aside0.mk hn
  clear H hn
  go_enter Try.func42, Try.ntmps42
  go_wp2_with (first
    | (go_at_call 77; refine (there_yes _ g b hc0).mono ?_; rintro e w' ⟨rfl, rfl⟩)
    | (go_at_call 15; refine (new_calls _).mono ?_; rintro e w1 ⟨g1, b1, rfl, ht1, hf1, hg1, hb1⟩; have HT1 := Aside0.mk ht1; have HF1 := Aside0.mk hf1; have HG1 := Aside0.mk hg1; have HB1 := Aside0.mk hb1; clear ht1 hf1 hg1 hb1; have hc1 : w1.cell? ⟨g, 0, none⟩ = some (.map (some b)) := cell_fr hc0 HF1.out (fun h => h))
    | (at_range; refine wpL_range rfl _ rfl rfl (HH.out.map.fr HF1.out (fun h => h)) ?_; intro w2 cnt hr2 hf2 hz2 hc2; have HR2 := Aside0.mk hr2; have HF2 := Aside0.mk hf2; have HZ2 := Aside0.mk hz2; have HC2 := Aside0.mk hc2; clear hr2 hf2 hz2 hc2))
  go_frame
  obtain ⟨r, hr⟩ : ∃ r, r = w1.heap.size := ⟨_, rfl⟩
  have hinv : ∃ left cnt fo, CI w w2 b r g1 b1 n f left cnt fo := by
    rw [hr]
    exact ⟨_, cnt, fun _ => none, HR2.out, (let h := HT1.out.fr HF2.out (fun h => h) (fun h => h); ⟨h.blk, h.ne, h.map.mono (Nat.zero_le _)⟩), HC2.out, fun s hs => by cases f s <;> rfl, HF1.out.then_ HF2.out (fun _ h => h.elim)⟩
  have hrg : r ≠ g1 := by have := blk_lt HT1.out.blk; omega
  have hrb : r ≠ b1 := by have := HT1.out.map.lt; omega
  have hrw : w.heap.size ≤ r := by have := HF1.out.size; omega
  have hbb : b ≠ b1 := by have := HH.out.map.lt; have := HB1.out; omega
  rw [← hr]
  have HI := Aside0.mk hinv
  have HRG := Aside0.mk hrg
  have HRB := Aside0.mk hrb
  have HRW := Aside0.mk hrw
  have HBB := Aside0.mk hbb
  clear hinv hrg hrb hrw hbb hr HR2 HF2 HZ2 HC2 HF1 HT1 hc1
  go_loopw [4] (fun _ wr => Aside0 (∃ left cnt fo, CI w wr b r g1 b1 n f left cnt fo)) (fun _ wr => wr.rangeLeft b r)
  case atStart => exact HI
  case round =>
    clear HI
    obtain ⟨left, cnt, fo, hI⟩ := hrel.out
    have HI := Aside0.mk hI
    clear hI hrel
    go_wp2_with (first
      | (at_next; refine wpL_next rfl _ rfl rfl HI.out.rg ?_ ?_))
    · intro hc hl
      have HL := Aside0.mk hl
      have HC := Aside0.mk hc
      clear hl hc
      go_wp2
      go_ret
      have ht := HI.out.tt
      exact ⟨g1, b1, rfl, ⟨ht.blk, ht.ne, (ht.map.mono (Nat.sub_le _ _)).congr (fun s hs => by rw [HI.out.eq s hs, HL.out s hs]; rfl)⟩, HI.out.fr, HG1.out, HB1.out⟩
    · intro x c w2 cnt2 hxs hwc hlx hfx hr2 hlt2 hf2 hz2 hen
      have HXS := Aside0.mk hxs
      have HR2 := Aside0.mk hr2
      have HF2 := Aside0.mk hf2
      have HLX := Aside0.mk hlx
      have HLT := Aside0.mk hlt2
      have HFX := Aside0.mk hfx
      have HWC := Aside0.mk hwc
      have HT2 := Aside0.mk (HI.out.tt.fr HF2.out (fun e => HRG.out e.symm) (fun e => HRB.out e.symm))
      have hcg : w2.cell? ⟨g1, 0, none⟩ = some (.map (some b1)) := (blk_cell HT2.out.blk 0).trans rfl
      clear hxs hr2 hf2 hlx hfx hwc hlt2 hz2
      go_wp2_with (first
        | (at_mapUpdate; refine wpL_update rfl _ _ _ rfl rfl HT2.out.map ?_ x rfl HXS.out _ rfl HWC.out ?_; (unfold maxLen; have h1 := HN.out; omega); intro w3 hm3 hf3 hz3; have HM3 := Aside0.mk hm3; have HF3 := Aside0.mk hf3; clear hm3 hf3 hz3; go_frame))
      have hr3 := HR2.out.fr HF3.out (fun e => HBB.out e) (fun e => HRB.out e)
      go_roundw
      case rel =>
        refine ⟨_, cnt2, _, hr3, ⟨blk_fr HT2.out.blk HF3.out (fun e => HT2.out.ne e.symm), HT2.out.ne, HM3.out.mono (by have := HLT.out; have := HI.out.len; omega)⟩, by have := HLT.out; have := HI.out.len; omega, fun s hs => ?_, ?_⟩
        · unfold upd
          by_cases e : s = x
          · subst e; simp [HFX.out]
          · simp [e, HI.out.eq s hs]
        · exact (HI.out.fr.then_ HF2.out (fun k hk => .inr (by rw [hk]; exact HRW.out))).then_ HF3.out (fun k hk => .inr (by rw [hk]; exact HB1.out))
      case measure => rw [hr3.left_eq, HI.out.rg.left_eq]; exact HLT.out

end Go.Proofs.Ytdpchfifaidamaa.T
