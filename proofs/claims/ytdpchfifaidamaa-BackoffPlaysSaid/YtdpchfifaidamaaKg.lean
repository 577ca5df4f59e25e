/- Fail of a group that is noted. No condition. -/
import Derived.Test.YtdpchfifaidamaaKf
namespace Go.Proofs.Ytdpchfifaidamaa.K
open Go.RowKit Go.Maps Go.Proofs.YtdpchfifaidamaaW.PrintWords Go.Proofs.Ytdpchfifaidamaa.B
set_option linter.unusedVariables false
set_option linter.unusedSimpArgs false

theorem set_groups {L : List N3} {k : Nat} (hk : k < L.length) (y : N3) (h : y.group = L[k].group) : (L.set k y).map N3.group = L.map N3.group := by
  rw [List.map_set, h]
  apply List.ext_getElem?
  intro j
  rw [List.getElem?_set]
  split
  · rename_i e
    subst e
    simp [hk]
  · rfl
set_option maxRecDepth 100000 in
set_option maxHeartbeats 1000000 in
theorem fail_old (w : World) (g b : Nat) (v : Value) (base n : Nat) (L : List N3) (F M R : Int) (s : ByteArray) (now : Int) (h : BT w g b v base n L F M R) (hs : s.size ≤ maxLen) (hn : n < 1000000000) (ht : timeB now = true) (k : Nat) (hk : k < L.length) (ha : at3 L s = some L[k]) (hg : L[k].group = s) (hq : ∀ n ∈ L.take k, n.group ≠ s) (hx : Okn L[k]) :
    Calls Try.prog 23 #[.pointer (some ⟨g, 0, none⟩), .string s, .int .i64 now] w (BPost w g b v base (n + 1) (L.set k (newNote F M R L[k] now)) F M R (.int .i64 (newLen F M R L[k] now))) := by
  have HNS := Aside0.mk (note_some ha)
  obtain ⟨x, hxe⟩ : ∃ x, x = L[k] := ⟨_, rfl⟩
  have HA := Aside0.mk (fun t => note_set k hk (newNote F M R L[k] now) hg hq (show L[k].group = s from hg) t)
  have HSG := Aside0.mk (set_groups hk (newNote F M R L[k] now) rfl)
  rw [← hxe] at HNS hx HA HSG ⊢
  have hlen := newLen_ok h.par hx now
  have HT := Aside0.mk ht
  have HH := Aside0.mk h
  have HS := Aside0.mk hs
  have HN := Aside0.mk hn
  have HC := Aside0.mk (show (note L s).getD (0, 0) = (x.len, x.til) from Prod.ext HNS.out.1 HNS.out.2.1)
  have HI := Aside0.mk HNS.out.2.2
  have hu117 := Try.underlying117
  obtain ⟨hc0, -, hc2, -, -⟩ := h.cell
  obtain ⟨w1, hw1⟩ : ∃ w1, w1 = w.alloc (.cells #[.int .i64 x.len, .int .i64 x.til] 117) := ⟨_, rfl⟩
  have hf1 : Fr no w w1 := by rw [hw1]; exact (Fr.refl w no).alloc _
  have H1 := Aside0.mk (h.no hf1)
  have hbx := heap_alloc_new w (.cells #[.int .i64 x.len, .int .i64 x.til] 117)
  have hb : 0 ≤ now ∧ now ≤ 1099511627776 := by unfold timeB at ht; simpa using ht
  obtain ⟨hb1, hb2⟩ := hb
  obtain ⟨ln, hln⟩ : ∃ ln, ln = newLen F M R x now := ⟨_, rfl⟩
  obtain ⟨y, hy⟩ : ∃ y, y = newNote F M R x now := ⟨_, rfl⟩
  have HYT := Aside0.mk (show y.len = ln ∧ y.til = max x.til (now + ln) by rw [hy, hln]; exact ⟨rfl, rfl⟩)
  rw [← hln] at hlen ⊢
  rw [← hy] at HA HSG ⊢
  have HLN := Aside0.mk hln
  have hsum : IntKind.i64.wrap (now + ln) = now + ln := IntWalk.i64_in _ (by omega)
  have hs1 : IntKind.i64.wrap (2 * x.len) = 2 * x.len := IntWalk.i64_in _ (by have := hx.l0; have := hx.l1; omega)
  have hs2 : IntKind.i64.wrap (now - x.til) = now - x.til := IntWalk.i64_in _ (by have := hx.t0; have := hx.t1; omega)
  have HSUM := Aside0.mk hsum
  have HS1 := Aside0.mk hs1
  have HS2 := Aside0.mk hs2
  have HF1 := Aside0.mk hf1
  obtain ⟨hd0, -, hd2, hd3, hd4⟩ := H1.out.cell
  obtain ⟨bx, hbx0⟩ : ∃ bx, bx = w.heap.size := ⟨_, rfl⟩
  have hbox : w1.heap[bx]? = some (.cells #[.int .i64 x.len, .int .i64 x.til] 117 (0, 0)) := by rw [hw1, hbx0]; exact hbx
  have MID0 := Aside0.mk (show Mid w w1 g b v v base n (L.map N3.group) L F M R bx x.len x.til from ⟨H1.out.blk, H1.out.own, H1.out.map, hbox, H1.out.base_le, hf1.mono (fun _ h => h.elim), Nat.le_of_eq hbx0.symm⟩)
  have HW1 := Aside0.mk hw1
  have HBX0 := Aside0.mk hbx0
  clear h hs hn ht ha hf1 hbx hb1 hb2 hsum hs1 hs2 hbx0 hw1 hg hq hx hln hy hlen hxe hbox
  go_enter Try.func23, Try.ntmps23
  go_upto_block 0 with (first
    | (go_at_call 82; refine (there_calls _ g F hc2 HH.out.par.f1).mono ?_; rintro e w' ⟨rfl, rfl⟩)
    | (go_at_call 80; refine (time_calls now _).mono ?_; rintro e w' ⟨rfl, rfl⟩; rw [HT.out])
    | (at_lookup; refine wpL2_lookup_ok rfl _ _ rfl rfl HH.out.map s rfl HS.out x.len x.til true HC.out HI.out ?_))
  rw [← HW1.out, ← HBX0.out]
  go_cut [] from 26 to 67 (fun wd => ∃ v2 names, Aside0 (Mid w wd g b v v2 base n names L F M R bx ln x.til) ∧ Aside0 (names = (L.set k y).map N3.group))
  case first =>
    have hb0 : w1.cell? ⟨bx, 0, none⟩ = some (.int .i64 x.len) := (blk_cell MID0.out.box 0).trans rfl
    have hb1 : w1.cell? ⟨bx, 1, none⟩ = some (.int .i64 x.til) := (blk_cell MID0.out.box 1).trans rfl
    have hz0 : w1.frozen? ⟨bx, 0, none⟩ = false := blk_frozen MID0.out.box 0
    have hs1 := HS1.out
    have hs2 := HS2.out
    clear hc0 hc2 hd0
    go_upto_region 8 with fail
    go_quiet (fail)
    by_cases hr : R ≤ now - x.til
    · have hd : decide (R ≤ now - x.til) = true := decide_eq_true hr
      have HR := Aside0.mk hr
      go_wp2_with fail
      all_goals
        first
        | (go_meet; exact ⟨v, L.map N3.group, ⟨(MID0.out.drew _).set 0 _ ln x.til (by rw [HLN.out]; unfold newLen; rw [if_pos HR.out]; rfl)⟩, HSG.out ▸ ⟨rfl⟩⟩)
        | (exfalso; have := HR.out; omega)
    · have hd : decide (R ≤ now - x.til) = false := decide_eq_false hr
      have HR := Aside0.mk hr
      go_upto_region 4 with fail
      obtain ⟨wq, hwq⟩ : ∃ wq, wq = w1.drewN nq := ⟨_, rfl⟩
      have MIDQ := Aside0.mk (show Mid w wq g b v v base n (L.map N3.group) L F M R bx x.len x.til by rw [hwq]; exact MID0.out.drew nq)
      rw [← hwq]
      have hq0 : wq.cell? ⟨bx, 0, none⟩ = some (.int .i64 x.len) := (blk_cell MIDQ.out.box 0).trans rfl
      have hq1 : wq.frozen? ⟨bx, 0, none⟩ = false := blk_frozen MIDQ.out.box 0
      have hq2 : wq.cell? ⟨g, 3, none⟩ = some (.int .i64 M) := (blk_cell MIDQ.out.blk 3).trans rfl
      clear hwq
      go_still_tail 9, (by kernel_rfl)
      change wpList _ _ _ _ _ wq.drew
      go_wp2_with fail
      all_goals
        first
        | (go_meet; exact ⟨v, L.map N3.group, ⟨(MIDQ.out.drew 1).set 0 _ ln x.til (by rw [HLN.out]; unfold newLen; rw [if_neg (by have := HR.out; omega)]; simp; omega)⟩, HSG.out ▸ ⟨rfl⟩⟩)
        | (exfalso; have := HR.out; omega)
  case rest =>
  obtain ⟨v2, names, MID, HNM⟩ := hcut
  clear hc0 hc2 hd0 hd2 hd3 hd4
  have hb0 : wc.cell? ⟨bx, 0, none⟩ = some (.int .i64 ln) := (blk_cell MID.out.box 0).trans rfl
  have hb1 : wc.cell? ⟨bx, 1, none⟩ = some (.int .i64 x.til) := (blk_cell MID.out.box 1).trans rfl
  have hz1 : wc.frozen? ⟨bx, 1, none⟩ = false := blk_frozen MID.out.box 1
  have hsum := HSUM.out
  go_upto_region 10 with fail
  go_cut [] from 68 to 83 (fun wd => Aside0 (Mid w wd g b v v2 base n names L F M R bx ln (max x.til (now + ln))))
  case first =>
    go_wp2_with fail
    all_goals
      go_meet
      exact ⟨MID.out.set 1 _ ln (max x.til (now + ln)) (by simp; omega)⟩
  case rest =>
  clear hb0 hb1 hz1 hsum
  have MID2 := hcut
  clear hcut
  obtain ⟨tl, htl⟩ : ∃ tl, tl = max x.til (now + ln) := ⟨_, rfl⟩
  rw [← htl] at MID2
  have HTL := Aside0.mk htl
  have hb0 : wc.cell? ⟨bx, 0, none⟩ = some (.int .i64 ln) := (blk_cell MID2.out.box 0).trans rfl
  have hb1 : wc.cell? ⟨bx, 1, none⟩ = some (.int .i64 tl) := (blk_cell MID2.out.box 1).trans rfl
  have hb2 : wc.cell? ⟨g, 0, none⟩ = some (.map (some b)) := (blk_cell MID2.out.blk 0).trans rfl
  clear htl
  go_upto_region 11 with fail
  go_still_tail 6, (by kernel_rfl)
  change wpList _ _ _ _ _ wc.drew
  refine wpL2_update rfl _ _ _ rfl rfl (MID2.out.map.drewN 1) (by have := HN.out; simp only [maxLen]; omega) s rfl HS.out ln tl rfl ?_
  intro w4 hm4 hf4 _
  have hdone := (MID2.out.drew 1).done HH.out.par hm4 hf4 HNM.out (fun t => by have := HA.out t; rw [HYT.out.1, HYT.out.2] at this; rw [HTL.out]; exact this)
  have DONE := Aside0.mk hdone
  have hcl := cell_fr (S := fun k => k = b) hb0 (((Fr.refl wc (fun k => k = b)).drewN 1).then_ hf4 (fun k hk => .inl hk)) (fun e => MID2.out.map.cells_ne MID2.out.box e)
  clear hm4 hf4 hdone hb0 hb1 hb2
  go_wp2_with fail
  go_ret
  exact ⟨v2, rfl, DONE.out.1, DONE.out.2⟩
end Go.Proofs.Ytdpchfifaidamaa.K
