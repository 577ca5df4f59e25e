/- Copy. No condition. -/
import Derived.Test.YtdpchfifaidamaaKi
namespace Go.Proofs.Ytdpchfifaidamaa.K
open Go.RowKit Go.Maps Go.Proofs.YtdpchfifaidamaaW.PrintWords Go.Proofs.Ytdpchfifaidamaa.B
set_option linter.unusedVariables false
set_option linter.unusedSimpArgs false

theorem SRow.base_le {w : World} {base : Nat} {v : Value} {l : List ByteArray} (h : SRow w base v l) {k : Nat} (hk : v.ownBlock = some k) : base ≤ k := by
  rcases h with ⟨rfl, _⟩ | ⟨g, c, cur, rfl, hb, _⟩
  · cases hk
  · cases hk; exact hb
structure CP (w wr : World) (g1 b1 : Nat) (v1 : Value) (L : List N3) (k : Nat) (f : ByteArray → Option NP) (F M R : Int) : Prop where
  blk : wr.heap[g1]? = some (.cells #[.map (some b1), v1, .int .i64 F, .int .i64 M, .int .i64 R] 115 (0, 0))
  own : SRow wr w.heap.size v1 ((L.take k).map N3.group)
  map : MapIs2 wr b1 k f
  eq : ∀ s, f s = if s ∈ (L.take k).map N3.group then note L s else none
  fr : Fr no w wr
  g1 : w.heap.size ≤ g1
  b1 : w.heap.size ≤ b1
def CopyPost (w : World) (L : List N3) (F M R : Int) (e : Ending) (w' : World) : Prop :=
  ∃ g b v, e = .returned (.pointer (some ⟨g, 0, none⟩)) ∧ BT w' g b v w.heap.size L.length L F M R ∧ Fr no w w' ∧ w.heap.size ≤ g ∧ w.heap.size ≤ b
set_option maxRecDepth 100000 in
set_option maxHeartbeats 2000000 in
theorem copy_calls (w : World) (g b : Nat) (v : Value) (base n : Nat) (L : List N3) (F M R : Int) (h : BT w g b v base n L F M R) (hL : L.length < 100000000) (hs : ∀ n ∈ L, n.group.size ≤ maxLen) :
    Calls Try.prog 28 #[.pointer (some ⟨g, 0, none⟩)] w (CopyPost w L F M R) := by
  have HH := Aside0.mk h
  have HS := Aside0.mk hs
  have hmm := @run_makeMap Try.prog
  have hu115 := Try.underlying115
  obtain ⟨hc0, hc1, hc2, hc3, hc4⟩ := h.cell
  obtain ⟨l, hl⟩ : ∃ l, l = L.map N3.group := ⟨_, rfl⟩
  obtain ⟨A, c, hv, hlc, hcm, hr⟩ := h.own.form
  rw [← hl] at hv hlc hr
  rw [hv] at hc1
  have HR := Aside0.mk hr
  have HL := Aside0.mk hl
  have hll : l.length < 100000000 := by rw [hl, List.length_map]; exact hL
  have HLL := Aside0.mk hll
  have hlm : l.length ≤ 9223372036854775807 := by omega
  have ha2 := cell_fr hc2 ((Fr.refl w no).alloc (.map #[] 0)) (fun h => h)
  have ha3 := cell_fr hc3 ((Fr.refl w no).alloc (.map #[] 0)) (fun h => h)
  have ha4 := cell_fr hc4 ((Fr.refl w no).alloc (.map #[] 0)) (fun h => h)
  clear h hs hL hl hv hlc hcm hr hll
  go_enter Try.func28, Try.ntmps28
  go_upto_region 3 with (first
    | (go_at_call 82; refine (there_calls _ g F hc2 HH.out.par.f1).mono ?_; rintro e w' ⟨rfl, rfl⟩))
  go_cut [3] from 9 to 55 (fun v3 wd => ∃ g1 b1 v1 f, v3 = .pointer (some ⟨g1, 0, none⟩) ∧ Aside0 (CP w wd g1 b1 v1 L 0 f F M R))
  case first =>
    have hF2 : Fr no w ((w.alloc (.map #[] 0)).alloc (.cells #[.map (some w.heap.size), .slice none 0 0, .int .i64 F, .int .i64 M, .int .i64 R] 115)) := ((Fr.refl w no).alloc _).alloc _
    have HF2 := Aside0.mk hF2
    have e2 := World.new_ne w _ hc2
    have e3 := World.new_ne w _ hc3
    have e4 := World.new_ne w _ hc4
    clear hF2
    go_region_held3 (fun W => W.cell? ⟨g, 2, none⟩ = some (.int .i64 F) ∧ W.cell? ⟨g, 3, none⟩ = some (.int .i64 M) ∧ W.cell? ⟨g, 4, none⟩ = some (.int .i64 R)) (go_keep) (fail)
    all_goals
      go_wp2_with fail
      go_meet
      refine ⟨w.heap.size + 1, w.heap.size, .slice none 0 0, fun _ => none, rfl, ⟨⟨?_, SRow.nil _ _, ?_, fun s => by simp, HF2.out.drew, by omega, Nat.le_refl _⟩⟩⟩
      · have h0 : ((w.alloc (.map #[] 0)).alloc (.cells #[.map (some w.heap.size), .slice none 0 0, .int .i64 F, .int .i64 M, .int .i64 R] 115)).heap[w.heap.size + 1]? = some (.cells #[.map (some w.heap.size), .slice none 0 0, .int .i64 F, .int .i64 M, .int .i64 R] 115 (0, 0)) := by
          have := heap_alloc_new (w.alloc (.map #[] 0)) (.cells #[.map (some w.heap.size), .slice none 0 0, .int .i64 F, .int .i64 M, .int .i64 R] 115)
          simpa using this
        exact h0
      · exact (MapIs2.made w).alloc _
  case rest =>
  obtain ⟨g1, b1, v1, f, rfl, HC⟩ := hcut
  clear ha2 ha3 ha4 hc0 hc2 hc3 hc4 hmm
  have hd1 := cell_fr hc1 HC.out.fr (fun h => h)
  go_wp2_with fail
  go_loopw [29] (fun v29 wr => ∃ (k : Nat) (v1 : Value) (f : ByteArray → Option NP), k ≤ l.length ∧ v29 = .int .i64 k ∧ Aside0 (CP w wr g1 b1 v1 L k f F M R)) (fun v29 _ => l.length - (intOf v29).toNat)
  case atStart => exact ⟨0, v1, f, Nat.zero_le _, rfl, HC⟩
  case round =>
    clear HC
    obtain ⟨k, v1, f, hk, rfl, HC⟩ := hrel
    by_cases hlt : k < l.length
    · obtain ⟨ad, e, hcl⟩ := HR.out k hlt
      cases e
      obtain ⟨x, hx⟩ : ∃ x, x = l[k] := ⟨_, rfl⟩
      have hcx : wr.cell? (ad.add k) = some (.string x) := by
        have := hcl 0 (.string x) (by rw [hx]; rfl)
        have h2 := cell_fr this HC.out.fr (fun h => h)
        simpa [show E9.sz = 1 from rfl] using h2
      have HX := Aside0.mk hx
      obtain ⟨acc, hacc⟩ : ∃ acc, acc = (L.take k).map N3.group := ⟨_, rfl⟩
      have hown := HC.out.own
      rw [← hacc] at hown
      obtain ⟨A1, c1, hv1, hl1, hm1, -⟩ := hown.form
      subst hv1
      have HOW := Aside0.mk hown
      have HACC := Aside0.mk hacc
      have HAL := Aside0.mk (show acc.length < 1000000000000 by have := HLL.out; rw [hacc, List.length_map, List.length_take]; rw [HL.out, List.length_map] at this; omega)
      have hb1 : wr.cell? ⟨g1, 1, none⟩ = some (.slice A1 acc.length c1) := (blk_cell HC.out.blk 1).trans rfl
      clear hcl hx hown hacc hl1 hm1
      go_upto_region 8 with (first
        | (at_builtin; refine wpL_append_row w.heap.size rfl _ _ rfl (.slice A1 acc.length c1) acc x wr.heap.size rfl rfl (heap_alloc_new wr _) (HOW.out.alloc _) ?_ HAL.out ?_; (exact Nat.le_trans HC.out.fr.size (by simp)); intro g2 c2 w2 ho2 hf2; have HO2 := Aside0.mk ho2; have HF2 := Aside0.mk (show Fr (fun k => (Value.slice A1 acc.length c1).ownBlock = some k) wr w2 from ((Fr.refl wr (fun k => (Value.slice A1 acc.length c1).ownBlock = some k)).alloc _).then_ hf2 (fun k hk => .inl hk)); have hgv : ¬ (Value.slice A1 acc.length c1).ownBlock = some g1 := (fun e => by obtain ⟨cs, h1⟩ := HOW.out.cells e; have h2 := HC.out.blk; rw [h1] at h2; cases h2); have hg2 := blk_fr HC.out.blk HF2.out hgv; have HG2 := Aside0.mk hg2; have hz2 : w2.frozen? ⟨g1, 1, none⟩ = false := blk_frozen hg2 1; have hz3 : w2.cell? ⟨g1, 1, none⟩ = some (.slice A1 acc.length c1) := (blk_cell hg2 1).trans rfl; clear ho2 hf2 hg2 hgv))
      obtain ⟨v2, hv2⟩ : ∃ v2, v2 = Value.slice (some ⟨g2, 0, none⟩) (acc.length + 1) c2 := ⟨_, rfl⟩
      rw [← hv2] at HO2 ⊢
      obtain ⟨w3, hw3⟩ : ∃ w3, w3 = w2.setCell ⟨g1, 1, none⟩ v2 := ⟨_, rfl⟩
      have hfs : Fr (fun k => k = g1) w2 w3 := by rw [hw3]; exact (Fr.refl w2 (fun k => k = g1)).setCell (p := ⟨g1, 1, none⟩) (.inl rfl) _
      have hblk : w3.heap[g1]? = some (.cells #[.map (some b1), v2, .int .i64 F, .int .i64 M, .int .i64 R] 115 (0, 0)) := by rw [hw3]; exact blk_set HG2.out 1 v2
      have hFr : Fr no w w3 := (HC.out.fr.then_ HF2.out (fun j hj => .inr (HOW.out.base_le hj))).then_ hfs (fun j hj => .inr (by rw [hj]; exact HC.out.g1))
      have hmb : MapIs2 w3 b n (note L) := HH.out.map.fr hFr (fun h => h)
      have hmb1 : MapIs2 w3 b1 k f := (HC.out.map.fr HF2.out (fun e => by obtain ⟨cs, h1⟩ := HOW.out.cells e; exact HC.out.map.cells_ne h1 rfl)).fr hfs (fun e => HC.out.map.cells_ne HC.out.blk e.symm)
      have hown3 : SRow w3 w.heap.size v2 (acc ++ [x]) := HO2.out.fr hfs (fun j hj e => by obtain ⟨cs, h1⟩ := HO2.out.cells hj; rw [e, HG2.out] at h1; cases h1)
      obtain ⟨n1, hn1⟩ : ∃ n1, n1 = ((note L x).getD (0, 0)).1 := ⟨_, rfl⟩
      obtain ⟨n2, hn2⟩ : ∃ n2, n2 = ((note L x).getD (0, 0)).2 := ⟨_, rfl⟩
      have hxs : x.size ≤ maxLen := by
        have h1 : x ∈ L.map N3.group := by rw [← HL.out, HX.out]; exact List.getElem_mem hlt
        obtain ⟨y, hy, hyx⟩ := List.mem_map.1 h1
        rw [← hyx]; exact HS.out y hy
      have hlk := lookup2_run (hmb.drewN 1) x hxs n1 n2 (by rw [hn1, hn2])
      have hlk : (Instr.lookup 113 (.map (some b)) (.string x) false).run Try.prog w3.drew = .ok (.agg #[.int .i64 n1, .int .i64 n2]) w3.drew := hlk
      have hq0 : w3.cell? ⟨g1, 0, none⟩ = some (.map (some b1)) := (blk_cell hblk 0).trans rfl
      have hq1 : w3.cell? ⟨g, 0, none⟩ = some (.map (some b)) := cell_fr HH.out.cell.1 hFr (fun h => h)
      have HMB1 := Aside0.mk hmb1; have HFR := Aside0.mk hFr; have HBLK := Aside0.mk hblk; have HOWN3 := Aside0.mk hown3; have HXS := Aside0.mk hxs; have HN1 := Aside0.mk hn1; have HN2 := Aside0.mk hn2
      rw [← hw3]
      clear hw3 hv2 hfs hblk hFr hmb hmb1 hown3 hn1 hn2 hxs hz2 hz3 hb1 hd1 hc1
      go_still_tail 11, (by kernel_rfl)
      change wpList _ _ _ _ _ w3.drew
      refine wpL2_update rfl _ _ _ rfl rfl (HMB1.out.drewN 1) (by have := HLL.out; simp only [maxLen]; omega) x rfl HXS.out n1 n2 rfl ?_
      intro w4 hm4 hf4 _
      have HM4 := Aside0.mk hm4
      have HF4 := Aside0.mk (((Fr.refl w3 (fun k => k = b1)).drewN 1).then_ hf4 (fun k hk => .inl hk))
      clear hm4 hf4 hlk hq0 hq1
      go_wp2_with fail
      go_roundw
      case rel =>
        have htk : (L.take (k + 1)).map N3.group = acc ++ [x] := by
          rw [HACC.out, HX.out, List.map_take, List.map_take, ← HL.out, List.take_succ_eq_append_getElem hlt]
        refine ⟨k + 1, v2, _, by omega, by go_num, ⟨⟨blk_fr HBLK.out HF4.out (fun e => HMB1.out.cells_ne HBLK.out e), ?_, HM4.out, ?_, HFR.out.then_ HF4.out (fun j hj => .inr (by rw [hj]; exact HC.out.b1)), HC.out.g1, HC.out.b1⟩⟩⟩
        · rw [htk]
          exact HOWN3.out.fr HF4.out (fun j hj e => by obtain ⟨cs, h1⟩ := HOWN3.out.cells hj; exact HMB1.out.cells_ne h1 e)
        · intro t
          rw [htk]
          unfold upd2
          rw [HC.out.eq t, ← HACC.out]
          have hin : (note L x).isSome = true := by
            have h1 : x ∈ L.map N3.group := by rw [← HL.out, HX.out]; exact List.getElem_mem hlt
            obtain ⟨y, hy, hyx⟩ := List.mem_map.1 h1
            unfold note at3
            rw [Option.isSome_map, List.find?_isSome]
            exact ⟨y, hy, by simpa using hyx⟩
          obtain ⟨c, hc⟩ := Option.isSome_iff_exists.1 hin
          by_cases e : t = x
          · subst e
            rw [if_pos rfl, if_pos (by simp), hc, HN1.out, HN2.out, hc]
            rfl
          · rw [if_neg e]
            simp [e]
      case measure => simp [intOf]; omega
    · obtain rfl : k = l.length := by omega
      go_wp2_with fail
      go_ret
      have hlL : l.length = L.length := by rw [HL.out, List.length_map]
      have ht : L.take l.length = L := by rw [hlL, List.take_length]
      refine ⟨g1, b1, v1, rfl, ⟨HC.out.blk, by have := HC.out.own; rw [ht] at this; exact this, ?_, HC.out.fr.size, HH.out.par⟩, HC.out.fr, HC.out.g1, HC.out.b1⟩
      have hm := HC.out.map
      rw [hlL] at hm
      refine hm.congr (fun t _ => ?_)
      rw [HC.out.eq t, ht]
      split
      · rfl
      · rename_i hno
        have : at3 L t = none := by
          unfold at3
          rw [List.find?_eq_none]
          intro n hn h
          exact hno (List.mem_map.2 ⟨n, hn, by simpa using h⟩)
        unfold note
        rw [this]
        rfl
end Go.Proofs.Ytdpchfifaidamaa.K
