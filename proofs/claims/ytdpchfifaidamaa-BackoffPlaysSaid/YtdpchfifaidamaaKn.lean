/- The walk of BackoffPlays: whatever fails, and is fine, at whatever times: answers, and what is noted, are as the document says. No condition. -/
import Derived.Test.YtdpchfifaidamaaKm
namespace Go.Proofs.Ytdpchfifaidamaa.K
open Go.RowKit Go.Maps Go.Proofs.YtdpchfifaidamaaW.PrintWords Go.Proofs.Ytdpchfifaidamaa.B
set_option linter.unusedVariables false
set_option linter.unusedSimpArgs false

set_option maxRecDepth 100000 in
set_option maxHeartbeats 1000000 in
theorem clear_only (w : World) (g b : Nat) (v : Value) (base n : Nat) (L : List N3) (F M R : Int) (h : BT w g b v base n L F M R) :
    Calls Try.prog 27 #[.pointer (some ⟨g, 0, none⟩)] w fun e w' => e = .returned (.tuple #[]) ∧ BT w' g b (.slice none 0 0) base 0 [] F M R ∧ Fr (fun k => k = g ∨ k = b) w w' := by
  have HH := Aside0.mk h
  obtain ⟨hc0, -, hc2, -, -⟩ := h.cell
  clear h
  go_enter Try.func27, Try.ntmps27
  go_upto_region 1 with (first
    | (go_at_call 82; refine (there_calls _ g F hc2 HH.out.par.f1).mono ?_; rintro e w' ⟨rfl, rfl⟩))
  go_wp2_with (first
    | (refine wpL2_clear rfl _ rfl rfl HH.out.map ?_; intro w1 hm1 hf1 _; have HM1 := Aside0.mk hm1; have HF1 := Aside0.mk hf1; have hb1 := blk_fr HH.out.blk hf1 HH.out.gb; have HB1 := Aside0.mk hb1; have hz1 : w1.frozen? ⟨g, 1, none⟩ = false := blk_frozen hb1 1; have hz2 : w1.cell? ⟨g, 1, none⟩ = some v := (blk_cell hb1 1).trans rfl; clear hm1 hf1 hb1))
  go_end0
  have hfs : Fr (fun k => k = g) w1 (w1.setCell ⟨g, 1, none⟩ (.slice none 0 0)) := (Fr.refl w1 (fun k => k = g)).setCell (p := ⟨g, 1, none⟩) (.inl rfl) _
  exact ⟨rfl, ⟨blk_set HB1.out 1 _, SRow.nil _ _, (HM1.out.fr hfs (fun e => HH.out.gb e.symm)).congr (fun _ _ => rfl), Nat.le_trans HH.out.base_le (Nat.le_trans HF1.out.size hfs.size), HH.out.par⟩, (HF1.out.mono (fun k hk => .inr hk)).then_ hfs (fun k hk => .inl (.inl hk))⟩
set_option maxRecDepth 100000 in
set_option maxHeartbeats 4000000 in
theorem plays_bad (w : World) (F M R : Int) (A : Option Addr) (c : Nat) (l : List OpK) (hlm : l.length ≤ 9223372036854775807) (hP : ¬ Par F M R) :
    Calls Try.prog 5 #[.agg #[.int .i64 F, .int .i64 M, .int .i64 R], .slice A l.length c] w fun e w' => e = .returned (.bool true) ∧ Below w.heap.size w w' := by
  have HP := Aside0.mk hP
  have hu39 := Try.underlying39
  clear hP
  have hb := heap_alloc_new w (.cells #[.int .i64 F, .int .i64 M, .int .i64 R] 39)
  have hb0 := blk_cell hb 0
  have hb1 := blk_cell hb 1
  have hb2 := blk_cell hb 2
  clear hb
  go_enter Try.func5, Try.ntmps5
  go_wp2_with fail
  refine (new_no _ F M R HP.out).mono ?_
  rintro e w' ⟨rfl, rfl⟩
  go_wp2_with fail
  refine (rnew_no _ F M R HP.out).mono ?_
  rintro e w2 ⟨gr, rfl, hf2⟩
  have HF2 := Aside0.mk hf2
  clear hf2
  go_wp2_with fail
  go_loopw [5, 9] (fun v5 v9 wr => v5 = .pointer none ∧ v9 = .int .i64 0 ∧ Aside0 (Below w.heap.size w wr)) (fun _ _ _ => 0)
  case atStart => exact ⟨rfl, rfl, ⟨(((Fr.refl w no).alloc _).then_ HF2.out (fun _ h => .inl h)).no_below⟩⟩
  case round =>
    obtain ⟨rfl, rfl, HB⟩ := hrel
    by_cases h0 : 0 < l.length
    · go_wp2_with fail
      refine (known_calls wr).mono ?_
      rintro e w5 ⟨rfl, hbl⟩
      have HBL := Aside0.mk hbl
      clear hbl
      go_wp2_with fail
      go_ret
      exact ⟨rfl, HB.out.trans (HBL.out.mono HB.out.size)⟩
    · go_wp2_with fail
      refine (known_calls wr).mono ?_
      rintro e w5 ⟨rfl, hbl⟩
      have HBL := Aside0.mk hbl
      clear hbl
      go_wp2_with fail
      go_ret
      exact ⟨rfl, HB.out.trans (HBL.out.mono HB.out.size)⟩
set_option maxRecDepth 100000 in
set_option maxHeartbeats 8000000 in
theorem plays_walk (w : World) (F M R : Int) (A : Option Addr) (c : Nat) (l : List OpK) (hr : SC ROpK 3 w A l) (hlc : l.length ≤ c) (hcm : c ≤ maxLen) :
    Calls Try.prog 5 #[.agg #[.int .i64 F, .int .i64 M, .int .i64 R], .slice A l.length c] w fun e w' => e = .returned (.bool true) ∧ Below w.heap.size w w' := by
  have hlm : l.length ≤ 9223372036854775807 := by simp only [maxLen] at hcm; omega
  by_cases hP : Par F M R
  case neg => exact plays_bad w F M R A c l hlm hP
  have HP := Aside0.mk hP
  have HR := Aside0.mk hr
  have hu39 := Try.underlying39
  clear hP hr hlc hcm
  have hb := heap_alloc_new w (.cells #[.int .i64 F, .int .i64 M, .int .i64 R] 39)
  have hb0 := blk_cell hb 0
  have hb1 := blk_cell hb 1
  have hb2 := blk_cell hb 2
  have HBX := Aside0.mk hb
  clear hb
  go_enter Try.func5, Try.ntmps5
  go_wp2_with fail
  refine (new_yes _ F M R HP.out).mono ?_
  rintro e w1 ⟨g, b, rfl, ht1, hf1, hg1, hb1'⟩
  have hbk := blk_fr HBX.out hf1 (fun h => h)
  have hb10 := blk_cell hbk 0
  have hb11 := blk_cell hbk 1
  have hb12 := blk_cell hbk 2
  have HT1 := Aside0.mk ht1; have HF1 := Aside0.mk hf1; have HG1 := Aside0.mk hg1; have HB1 := Aside0.mk hb1'
  clear hb0 hb1 hb2 ht1 hf1 hg1 hb1' hbk HBX
  go_wp2_with fail
  refine (rnew_yes _ F M R HP.out).mono ?_
  rintro e w2 ⟨gr, rfl, hrt, hf2, hg2⟩
  have HRT := Aside0.mk hrt; have HF2 := Aside0.mk hf2; have HG2 := Aside0.mk hg2
  clear hb10 hb11 hb12 hrt hf2 hg2
  go_wp2_with fail
  go_loopw [5, 9, 11] (fun v5 v9 v11 wr => ∃ (k g b n : Nat) (v vr : Value) (L : List N3), k ≤ l.length ∧ k ≤ 40 ∧ v5 = .pointer (some ⟨g, 0, none⟩) ∧ v9 = .int .i64 k ∧ Aside0 (PK w wr g b gr v vr n L F M R k)) (fun _ v9 _ _ => l.length - (intOf v9).toNat)
  case atStart =>
    have h1 := ((Fr.refl w no).alloc (.cells #[.int .i64 F, .int .i64 M, .int .i64 R] 39))
    have hs1 := h1.size
    have h2 := h1.then_ HF1.out (fun _ h => .inl h)
    have hs2 := h2.size
    refine ⟨0, g, b, 0, _, _, [], Nat.zero_le _, by omega, rfl, rfl, ⟨(HT1.out.no HF2.out).less hs1, HRT.out.less hs2, LOk.nil 0, Nat.le_refl _, (h2.then_ HF2.out (fun _ h => .inl h)).no_below, Nat.le_trans hs1 HG1.out, Nat.le_trans hs1 HB1.out, Nat.le_trans hs2 HG2.out⟩⟩
  case round =>
    clear HT1 HF1 HG1 HB1 HRT HF2 HG2
    obtain ⟨k, g, b, n, v, vr, L, hk, hk40, rfl, rfl, HI⟩ := hrel
    by_cases hlt : k < l.length ∧ k < 40
    · obtain ⟨hlt, hlt40⟩ := hlt
      have hsc := HR.out.below stable_opk HI.out.fr
      obtain ⟨ad, e, hc0, hc1, hc2, hgs⟩ := opk_cells hsc k hlt
      cases e
      obtain ⟨o, ho⟩ : ∃ o, o = l[k] := ⟨_, rfl⟩
      rw [← ho] at hc0 hc1 hc2 hgs
      obtain ⟨bx, hbx⟩ : ∃ bx, bx = wr.heap.size := ⟨_, rfl⟩
      have HBX := Aside0.mk hbx
      have hba := heap_alloc_new wr (.cells #[.int .i64 o.kind, .string o.group, .int .i64 o.now] 49)
      rw [← hbx] at hba
      have HBA := Aside0.mk hba
      have HGS := Aside0.mk hgs
      clear hsc ho hba hgs hbx
      by_cases h300 : 300 < o.group.size
      · go_wp2_with fail
        go_roundw
        case rel => exact ⟨k + 1, g, b, n, v, vr, L, by omega, by omega, rfl, by go_num, ⟨(HI.out.no ((Fr.refl wr no).alloc _)).up⟩⟩
        case measure => simp [intOf]; omega
      · have HPW := Aside0.mk (HI.out.no ((Fr.refl wr no).alloc (.cells #[.int .i64 o.kind, .string o.group, .int .i64 o.now] 49)))
        go_upto_block 2 with fail
        rw [← HBX.out]
        obtain ⟨wc, hwc⟩ : ∃ wc, wc = wr.alloc (.cells #[.int .i64 o.kind, .string o.group, .int .i64 o.now] 49) := ⟨_, rfl⟩
        rw [← hwc] at HBA HPW ⊢
        have hb0 : wc.cell? ⟨bx, 0, none⟩ = some (.int .i64 o.kind) := (blk_cell HBA.out 0).trans rfl
        have hb1 : wc.cell? ⟨bx, 1, none⟩ = some (.string o.group) := (blk_cell HBA.out 1).trans rfl
        have hb2 : wc.cell? ⟨bx, 2, none⟩ = some (.int .i64 o.now) := (blk_cell HBA.out 2).trans rfl
        have HX := Aside0.mk (HPW.out.box HBA.out)
        have HBL := Aside0.mk (blk_lt HBA.out)
        clear hwc hc0 hc1 hc2 HI HBA
        go_cut [5, 11] from 42 to 151 (fun v5 v11 wd => ∃ (g b n : Nat) (v vr : Value) (L : List N3), v5 = .pointer (some ⟨g, 0, none⟩) ∧ Aside0 (PK w wd g b gr v vr n L F M R (k + 1)) ∧ Aside0 (wd.cell? ⟨bx, 1, none⟩ = some (.string o.group)) ∧ Aside0 (wd.cell? ⟨bx, 2, none⟩ = some (.int .i64 o.now)))
        case first =>
          have HD1 := Aside0.mk hb1
          have HD2 := Aside0.mk hb2
          by_cases hk0 : o.kind = 0
          · have hkb : (o.kind == 0) = true := by simp [hk0]
            clear hk0 hb1 hb2
            go_upto_region 16 with fail
            obtain ⟨L', hL'⟩ : ∃ L', L' = (failL F M R L o.group o.now).1 := ⟨_, rfl⟩
            obtain ⟨r', hr'⟩ : ∃ r', r' = (failL F M R L o.group o.now).2 := ⟨_, rfl⟩
            have HC23 := Aside0.mk (show ∀ W, Fr no wc W → Calls Try.prog 23 #[.pointer (some ⟨g, 0, none⟩), .string o.group, .int .i64 o.now] W (BPost W g b v w.heap.size (n + 1) L' F M R (.int .i64 r')) from fun W h => hL' ▸ hr' ▸ fail_calls W g b v w.heap.size n L F M R o.group o.now (HPW.out.no h).bt HGS.out (by have := HPW.out.len; omega) HPW.out.ok (by omega))
            have HC24 := Aside0.mk (show ∀ W, BR W gr vr w.heap.size L F M R → Calls Try.prog 24 #[.pointer (some ⟨gr, 0, none⟩), .string o.group, .int .i64 o.now] W (RPost W gr vr w.heap.size L' F M R (.int .i64 r')) from fun W h => hL' ▸ hr' ▸ rfail_calls W gr vr w.heap.size L F M R o.group o.now h HP.out HPW.out.ok (by omega))
            have HOK := Aside0.mk (show LOk L' (k + 1) from hL' ▸ HPW.out.ok.fail HP.out o.group HGS.out o.now)
            clear hL' hr'
            have HA := Aside0.mk (show Fr (fun j => ¬ j = bx) wc wc from Fr.refl _ _)
            go_region_held3 (fun W => W.cell? ⟨bx, 1, none⟩ = some (.string o.group) ∧ W.cell? ⟨bx, 2, none⟩ = some (.int .i64 o.now)) (first
              | exact ⟨HD1.out, HD2.out⟩
              | exact ⟨cell_fr HD1.out HA.out (fun h => h rfl), cell_fr HD2.out HA.out (fun h => h rfl)⟩)
              (first
              | (go_at_call 23; refine (HC23.out _ (Fr.refl wc no).drew).mono ?_; rintro e w6 ⟨v6, rfl, ht6, hf6⟩; have HF6 := Aside0.mk (((Fr.refl wc (SB g b v)).drew).then_ hf6 (fun j hj => .inl hj)); have HR6 := Aside0.mk (HPW.out.br.beside HPW.out.bt HF6.out); replace HA := Aside0.mk (show Fr (fun j => ¬ j = bx) wc w6 from HF6.out.mono (fun j hj e => HX.out.1 (e ▸ hj))); have HT6 := Aside0.mk ht6; clear hf6 ht6)
              | (go_at_call 24; refine (HC24.out _ HR6.out).mono ?_; rintro e w7 ⟨v7, rfl, ht7, hf7⟩; replace HA := Aside0.mk (show Fr (fun j => ¬ j = bx) wc w7 from HA.out.then_ hf7 (fun j hj => .inl (fun e => HX.out.2 (e ▸ hj)))); have HT7 := Aside0.mk ht7; have HF7 := Aside0.mk hf7; clear hf7 ht7))
            obtain ⟨hd1, hd2⟩ : w7.cell? ⟨bx, 1, none⟩ = some (.string o.group) ∧ w7.cell? ⟨bx, 2, none⟩ = some (.int .i64 o.now) := by assumption
            have HE1 := Aside0.mk hd1; have HE2 := Aside0.mk hd2
            clear hd1 hd2
            go_wp2_with fail
            go_meet
            exact ⟨g, b, n + 1, v6, v7, L', rfl, ⟨HPW.out.both HT6.out HF6.out HT7.out HF7.out HOK.out (by have := HPW.out.len; omega)⟩, HE1, HE2⟩
          · have hkb : (o.kind == 0) = false := by simp [hk0]
            clear hk0
            by_cases hk1 : o.kind = 1
            · have hkb1 : (o.kind == 1) = true := by simp [hk1]
              clear hk1 hb0
              have hLl := HPW.out.ok.len
              have HLL := Aside0.mk hLl
              clear hLl
              go_wp2_with fail
              refine (fine_calls wc g b v _ n L F M R o.group HPW.out.bt HGS.out (by have := HLL.out; omega) HPW.out.ok.nodup).mono ?_
              rintro e w3 ⟨v3, rfl, ht3, hf3⟩
              have hd1 := cell_fr HD1.out hf3 HX.out.1
              have HE1 := Aside0.mk hd1
              have HE2 := Aside0.mk (cell_fr HD2.out hf3 HX.out.1)
              have HT3 := Aside0.mk ht3; have HF3 := Aside0.mk hf3
              have HR3 := Aside0.mk (HPW.out.br.beside HPW.out.bt hf3)
              clear ht3 hf3 hb1 hb2
              go_wp2_with fail
              refine (rfine_calls w3 gr vr _ L F M R o.group HR3.out (by have := HLL.out; omega)).mono ?_
              rintro e w4 ⟨v4, rfl, ht4, hf4⟩
              have HT4 := Aside0.mk ht4; have HF4 := Aside0.mk hf4
              clear ht4 hf4
              go_wp2_with fail
              go_meet
              exact ⟨g, b, n, v3, v4, _, rfl, ⟨HPW.out.both HT3.out HF3.out HT4.out HF4.out ((HPW.out.ok.fine o.group).mono (by omega)) (by have := HPW.out.len; omega)⟩, ⟨cell_fr HE1.out HF4.out HX.out.2⟩, ⟨cell_fr HE2.out HF4.out HX.out.2⟩⟩
            · have hkb1 : (o.kind == 1) = false := by simp [hk1]
              clear hk1
              by_cases hk2 : o.kind = 2
              · have hkb2 : (o.kind == 2) = true := by simp [hk2]
                clear hk2 hb0 hb1 hb2
                go_wp2_with fail
                refine (clear_calls wc g b v _ n L F M R HPW.out.bt).mono ?_
                rintro e w3 ⟨v3, rfl, ht3, hf3⟩
                have HE1 := Aside0.mk (cell_fr HD1.out hf3 HX.out.1)
                have HE2 := Aside0.mk (cell_fr HD2.out hf3 HX.out.1)
                have HT3 := Aside0.mk ht3; have HF3 := Aside0.mk hf3
                have HR3 := Aside0.mk (HPW.out.br.beside HPW.out.bt hf3)
                have hz1 : w3.frozen? ⟨gr, 0, none⟩ = false := blk_frozen HR3.out.blk 0
                have hz2 : w3.cell? ⟨gr, 0, none⟩ = some vr := (blk_cell HR3.out.blk 0).trans rfl
                clear ht3 hf3
                have hfs : Fr (SR gr vr) w3 (w3.setCell ⟨gr, 0, none⟩ (.slice none 0 0)) := (Fr.refl w3 _).setCell (p := ⟨gr, 0, none⟩) (.inl (.inl rfl)) _
                have HFS := Aside0.mk hfs
                clear hfs
                go_wp2_with fail
                go_meet
                exact ⟨g, b, 0, v3, _, [], rfl, ⟨HPW.out.both HT3.out HF3.out ⟨blk_set HR3.out.blk 0 _, EOwn.nil _ _, Nat.le_trans HR3.out.base_le HFS.out.size⟩ HFS.out (LOk.nil _) (by omega)⟩, ⟨cell_fr HE1.out HFS.out HX.out.2⟩, ⟨cell_fr HE2.out HFS.out HX.out.2⟩⟩
              · have hkb2 : (o.kind == 2) = false := by simp [hk2]
                clear hk2 hb0 hb1 hb2
                go_wp2_with fail
                refine (copy_calls wc g b v _ n L F M R HPW.out.bt (by have := HPW.out.ok.len; omega) (fun x hx => (HPW.out.ok.ok x hx).sz)).mono ?_
                rintro e w3 ⟨g2, b2, v2, rfl, ht3, hf3, hg2, hb2⟩
                have HT3 := Aside0.mk ht3; have HF3 := Aside0.mk hf3; have HG2 := Aside0.mk hg2; have HB2 := Aside0.mk hb2
                clear ht3 hf3 hg2 hb2
                go_wp2_with fail
                refine (fail_calls w3 g b v _ n L F M R ⟨#[108, 101, 102, 116]⟩ 1 (HPW.out.bt.no HF3.out) (by simp [maxLen, ByteArray.size]) (by have := HPW.out.len; omega) HPW.out.ok (by omega)).mono ?_
                rintro e w4 ⟨v4, rfl, ht4, hf4⟩
                have HT4 := Aside0.mk ht4; have HF4 := Aside0.mk hf4
                clear ht4 hf4
                go_wp2_with fail
                refine (clear_only w4 g b v4 _ _ _ F M R HT4.out).mono ?_
                rintro e w5 ⟨rfl, ht5, hf5⟩
                have HF5 := Aside0.mk hf5
                clear ht5 hf5
                go_wp2_with fail
                go_meet
                have hgl := blk_lt HPW.out.bt.blk
                have hbl := HPW.out.bt.map.lt
                have hv2 : ∀ j, v2.ownBlock = some j → wc.heap.size ≤ j := fun j hj => HT3.out.own.base_le hj
                have hn4 : ∀ j, wc.heap.size ≤ j → ¬ SB g b v j := by
                  rintro j hj (e | e | e)
                  · omega
                  · omega
                  · have := HPW.out.bt.own.lt e; omega
                have hn5 : ∀ j, wc.heap.size ≤ j → ¬ (j = g ∨ j = b) := by rintro j hj (e | e) <;> omega
                have ht5 := (HT3.out.fr HF4.out (hn4 _ HG2.out) (hn4 _ HB2.out) (fun j hj => hn4 j (hv2 j hj))).fr HF5.out (hn5 _ HG2.out) (hn5 _ HB2.out) (fun j hj => hn5 j (hv2 j hj))
                have hr3 := HPW.out.br.no HF3.out
                have hr4 := hr3.beside (HPW.out.bt.no HF3.out) HF4.out
                have hf5' : Fr (SB g b v4) w4 w5 := HF5.out.mono (fun j hj => hj.elim (fun e => .inl e) (fun e => .inr (.inl e)))
                have hr5 := hr4.beside HT4.out hf5'
                have hsz := HPW.out.fr.size
                have hxg : ¬ (bx = g ∨ bx = b) := fun e => HX.out.1 (e.elim (fun e => .inl e) (fun e => .inr (.inl e)))
                refine ⟨g2, b2, L.length, v2, vr, L, rfl, ⟨⟨ht5.less hsz, hr5, HPW.out.ok.mono (by omega), by have := HPW.out.ok.len; omega, below_fr (below_fr (below_fr HPW.out.fr HF3.out (fun _ h => h.elim)) HF4.out HPW.out.sb) HF5.out (fun j hj => HPW.out.sb j (hj.elim (fun e => .inl e) (fun e => .inr (.inl e)))), Nat.le_trans hsz HG2.out, Nat.le_trans hsz HB2.out, HPW.out.gr0⟩⟩, ⟨cell_fr (cell_fr (cell_fr HD1.out HF3.out (fun h => h)) HF4.out HX.out.1) HF5.out hxg⟩, ⟨cell_fr (cell_fr (cell_fr HD2.out HF3.out (fun h => h)) HF4.out HX.out.1) HF5.out hxg⟩⟩
        case rest =>
        clear HPW HX hb0 hb1 hb2
        obtain ⟨g, b, n, v, vr, L, rfl, HP2, HD1, HD2⟩ := hcut
        obtain ⟨nlst, hnl⟩ : ∃ nlst, nlst = L.map N3.group := ⟨_, rfl⟩
        obtain ⟨mb, hmb⟩ : ∃ mb, mb = mayB L o.group o.now := ⟨_, rfl⟩
        obtain ⟨tv, htv⟩ : ∃ tv, tv = nt L o.group := ⟨_, rfl⟩
        obtain ⟨lv, hlv⟩ : ∃ lv, lv = nl L o.group := ⟨_, rfl⟩
        have hLl := HP2.out.ok.len
        have HLL := Aside0.mk (show L.length < 1000000000 by omega)
        have HNL := Aside0.mk (show nlst.length < 1000000000000 by rw [hnl, List.length_map]; omega)
        have HC29 := Aside0.mk (show ∀ W, Fr no wc W → Calls Try.prog 29 #[.pointer (some ⟨g, 0, none⟩), .string o.group, .int .i64 o.now] W fun e w' => e = .returned (.bool mb) ∧ Fr no W w' from fun W h => hmb ▸ may_calls W g b v w.heap.size n L F M R o.group o.now (HP2.out.no h).bt HGS.out)
        have HC30 := Aside0.mk (show ∀ W, Fr no wc W → Calls Try.prog 30 #[.pointer (some ⟨gr, 0, none⟩), .string o.group, .int .i64 o.now] W fun e w' => e = .returned (.bool mb) ∧ W = w' from fun W h => hmb ▸ rmay_calls W gr vr w.heap.size L F M R o.group o.now (HP2.out.no h).br)
        have HC31 := Aside0.mk (show ∀ W, Fr no wc W → Calls Try.prog 31 #[.pointer (some ⟨g, 0, none⟩), .string o.group] W fun e w' => e = .returned (.int .i64 tv) ∧ Fr no W w' from fun W h => htv ▸ until_calls W g b v w.heap.size n L F M R o.group (HP2.out.no h).bt HGS.out)
        have HC32 := Aside0.mk (show ∀ W, Fr no wc W → Calls Try.prog 32 #[.pointer (some ⟨gr, 0, none⟩), .string o.group] W fun e w' => e = .returned (.int .i64 tv) ∧ W = w' from fun W h => htv ▸ runtil_calls W gr vr w.heap.size L F M R o.group (HP2.out.no h).br)
        have HC33 := Aside0.mk (show ∀ W, Fr no wc W → Calls Try.prog 33 #[.pointer (some ⟨g, 0, none⟩), .string o.group] W fun e w' => e = .returned (.int .i64 lv) ∧ Fr no W w' from fun W h => hlv ▸ length_calls W g b v w.heap.size n L F M R o.group (HP2.out.no h).bt HGS.out)
        have HC34 := Aside0.mk (show ∀ W, Fr no wc W → Calls Try.prog 34 #[.pointer (some ⟨gr, 0, none⟩), .string o.group] W fun e w' => e = .returned (.int .i64 lv) ∧ W = w' from fun W h => hlv ▸ rlength_calls W gr vr w.heap.size L F M R o.group (HP2.out.no h).br)
        have HC36 := Aside0.mk (show ∀ W, Fr no wc W → Calls Try.prog 36 #[.pointer (some ⟨g, 0, none⟩)] W (LPost W nlst) from fun W h => hnl ▸ groups_calls W g b v w.heap.size n L F M R (HP2.out.no h).bt HLL.out)
        have HC37 := Aside0.mk (show ∀ W, Fr no wc W → Calls Try.prog 37 #[.pointer (some ⟨gr, 0, none⟩)] W (LPost W nlst) from fun W h => hnl ▸ rgroups_calls W gr vr w.heap.size L F M R (HP2.out.no h).br HLL.out)
        clear hnl hmb htv hlv hLl
        go_upto_region 24 with fail
        have HA := Aside0.mk (show Fr no wc wc from Fr.refl _ _)
        go_cut [151] from 42 to 151 (fun v151 wd => v151 = .bool false ∧ Aside0 (Fr no wc wd))
        case first =>
          go_region_held3 (fun W => W.cell? ⟨bx, 1, none⟩ = some (.string o.group) ∧ W.cell? ⟨bx, 2, none⟩ = some (.int .i64 o.now)) (first
            | exact ⟨HD1.out, HD2.out⟩
            | exact ⟨cell_fr HD1.out HA.out (fun h => h), cell_fr HD2.out HA.out (fun h => h)⟩)
            (first
            | (go_at_call 29; refine (HC29.out _ (Fr.refl wc no).drew).mono ?_; rintro e w6 ⟨rfl, hf6⟩; replace HA := Aside0.mk ((Fr.refl wc no).drew.then_ hf6 (fun _ h => .inl h)); clear hf6)
            | (go_at_call 30; refine (HC30.out _ HA.out).mono ?_; rintro e w6 ⟨rfl, rfl⟩)
            | (go_at_call 31; refine (HC31.out _ HA.out).mono ?_; rintro e w6 ⟨rfl, hf6⟩; replace HA := Aside0.mk (HA.out.then_ hf6 (fun _ h => .inl h)); clear hf6)
            | (go_at_call 32; refine (HC32.out _ HA.out).mono ?_; rintro e w6 ⟨rfl, rfl⟩)
            | (go_at_call 33; refine (HC33.out _ HA.out).mono ?_; rintro e w6 ⟨rfl, hf6⟩; replace HA := Aside0.mk (HA.out.then_ hf6 (fun _ h => .inl h)); clear hf6)
            | (go_at_call 34; refine (HC34.out _ HA.out).mono ?_; rintro e w6 ⟨rfl, rfl⟩)
            | (go_at_call 36; refine (HC36.out _ HA.out).mono ?_; rintro e w6 ⟨v6, rfl, ho6, hf6⟩; obtain ⟨A6, c6, rfl, hle6, hC6⟩ := ho6.form; replace HA := Aside0.mk (HA.out.then_ hf6 (fun _ h => .inl h)); have HC6 := Aside0.mk hC6; clear ho6 hf6 hle6 hC6)
            | (go_at_call 37; refine (HC37.out _ HA.out).mono ?_; rintro e w7 ⟨v7, rfl, ho7, hf7⟩; obtain ⟨A7, c7, rfl, hle7, hC7⟩ := ho7.form; replace HA := Aside0.mk (HA.out.then_ hf7 (fun _ h => .inl h)); have HC67 := Aside0.mk (Kd.C_below HC6.out hf7.no_below); have HC7 := Aside0.mk hC7; clear ho7 hf7 hle7 hC7)
            | (go_at_call 35; refine (texts_same _ _ _ nlst _ _ HC67.out HC7.out HNL.out).mono ?_; rintro e w8 ⟨rfl, hf8⟩; replace HA := Aside0.mk (HA.out.then_ hf8 (fun _ h => .inl h)); clear hf8))
          go_wp2_with fail
          go_meet
          exact ⟨rfl, HA⟩
        case rest =>
        obtain ⟨rfl, HA2⟩ := hcut
        go_wp2_with fail
        go_roundw
        case rel => exact ⟨k + 1, g, b, n, v, vr, L, by omega, by omega, rfl, by go_num, ⟨HP2.out.no HA2.out⟩⟩
        case measure => simp [intOf]; omega
    · by_cases hlt1 : k < l.length
      · have hd40 : ¬ (k < 40) := fun h => hlt ⟨hlt1, h⟩
        clear hlt
        go_wp2_with fail
        refine (known_calls wr).mono ?_
        rintro e w5 ⟨rfl, hbl⟩
        have HBL := Aside0.mk hbl
        clear hbl
        go_wp2_with fail
        go_ret
        exact ⟨rfl, HI.out.fr.trans (HBL.out.mono HI.out.fr.size)⟩
      · obtain rfl : k = l.length := by omega
        clear hlt
        go_wp2_with fail
        refine (known_calls wr).mono ?_
        rintro e w5 ⟨rfl, hbl⟩
        have HBL := Aside0.mk hbl
        clear hbl
        go_wp2_with fail
        go_ret
        exact ⟨rfl, HI.out.fr.trans (HBL.out.mono HI.out.fr.size)⟩
end Go.Proofs.Ytdpchfifaidamaa.K
namespace Go.Proofs.Ytdpchfifaidamaa.K
theorem cells39 : Try.prog.cellsOf 39 = 3 := by kernel_rfl
theorem list3 {α : Type} (l : List α) (h : (⟨l⟩ : Array α).size = 3) : ∃ a b c, l = [a, b, c] := by
  match l, h with
  | [a, b, c], _ => exact ⟨a, b, c, rfl⟩
end Go.Proofs.Ytdpchfifaidamaa.K
