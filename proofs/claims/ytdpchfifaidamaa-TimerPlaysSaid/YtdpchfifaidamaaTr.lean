/- The walk of TimerPlays: whatever is noted, dropped and copied, since when what is so, and what is so for long, is as the document says. No condition. -/
import Derived.Test.YtdpchfifaidamaaTq
import Derived.Deep.RegionHeld3
import Derived.Deep.DeepCutAuto
import Derived.Deep.CutRange
import Derived.Deep.CutBlock
namespace Go.Proofs.Ytdpchfifaidamaa.T
open Go.RowKit Go.Maps Go.Proofs.YtdpchfifaidamaaW.PrintWords Go.Proofs.Ytdpchfifaidamaa.B
set_option linter.unusedVariables false
set_option linter.unusedSimpArgs false

structure PInv (w wr : World) (g b gr n : Nat) (f : ByteArray → Option Int) (L : List NT) (k : Nat) : Prop where
  tt : TT wr g b n f
  rt : RT wr gr L
  inv : Inv f L
  times : Times f
  len : n ≤ 20 * k
  llen : L.length ≤ 20 * k
  fr : Below w.heap.size w wr
  g0 : w.heap.size ≤ g
  b0 : w.heap.size ≤ b
theorem PInv.no {w wr w' : World} {g b gr n : Nat} {f : ByteArray → Option Int} {L : List NT} {k : Nat} (h : PInv w wr g b gr n f L k) (hk : Fr no wr w') : PInv w w' g b gr n f L k :=
  ⟨h.tt.fr hk (fun h => h) (fun h => h), h.rt.no hk, h.inv, h.times, h.len, h.llen, below_fr h.fr hk (fun _ h => h.elim), h.g0, h.b0⟩
theorem PInv.up {w wr : World} {g b gr n : Nat} {f : ByteArray → Option Int} {L : List NT} {k : Nat} (h : PInv w wr g b gr n f L k) : PInv w wr g b gr n f L (k + 1) :=
  ⟨h.tt, h.rt, h.inv, h.times, by have := h.len; omega, by have := h.llen; omega, h.fr, h.g0, h.b0⟩
theorem kd_fr {w w' : World} {A : Option Addr} {l : List ByteArray} {S : Nat → Prop} (h : Kd.C Kd.string w A l.length l) (hl : l.length ≤ 9223372036854775807) (hk : Fr S w w') (hn : ∀ a s, w.cell? a = some (.string s) → ¬ S a.block) : Kd.C Kd.string w' A l.length l := by
  refine Kd.C_of_reads (enc := Value.string) (h1 := fun _ => rfl) (d := ByteArray.empty) ⟨rfl, hl, fun h0 => ?_⟩
  obtain ⟨adn, en, hcn⟩ := Kd.at_string h 0 (by omega) (by omega)
  refine ⟨adn, en, fun j hj => ?_⟩
  obtain ⟨adn', en', hcn'⟩ := Kd.at_string h (j : Int) (by omega) (by omega)
  rw [en] at en'
  cases en'
  have := cell_fr hcn' hk (hn _ _ hcn')
  simpa [rdOf] using this
theorem box_not_tab {w : World} {g bx : Nat} {L : List NT} {cs : Array Value} (h : RT w g L) (hb : w.heap[bx]? = some (.cells cs 36 (0, 0))) : bx ≠ g := by
  intro e
  obtain ⟨A, c, h0, _⟩ := h.blk
  rw [← e, hb] at h0
  cases h0
theorem kd_nil (w : World) : Kd.C Kd.string w none ([] : List ByteArray).length [] :=
  Kd.C_of_reads (enc := Value.string) (h1 := fun _ => rfl) (d := ByteArray.empty) ⟨rfl, by simp, fun h0 => absurd h0 (by simp)⟩
theorem texts_same (w : World) (A : Option Addr) (c : Nat) (l : List ByteArray) (A' : Option Addr) (c' : Nat) (h : Kd.C Kd.string w A l.length l) (h' : Kd.C Kd.string w A' l.length l) (hl : l.length < 1000000000000) :
    Calls Try.prog 35 #[.slice A l.length c, .slice A' l.length c'] w fun e w' => e = .returned (.bool true) ∧ Fr no w w' := by
  refine (texts_calls w A c l A' c' l h h' hl).mono ?_
  rintro e w' ⟨rfl, m, rfl⟩
  exact ⟨by simp, (Fr.refl w no).drewN m⟩
def nameOf (l : List ByteArray) : ByteArray := match l with | [] => ⟨#[]⟩ | s :: _ => s

set_option maxRecDepth 100000 in
set_option maxHeartbeats 8000000 in
theorem plays_walk (w : World) (A : Option Addr) (c : Nat) (l : List OpV) (hr : SC ROp 4 w A l) (hlc : l.length ≤ c) (hcm : c ≤ maxLen) :
    Calls Try.prog 6 #[.slice A l.length c] w fun e w' => e = .returned (.bool true) ∧ Below w.heap.size w w' := by
  have HR := Aside0.mk hr
  have hlm : l.length ≤ 9223372036854775807 := by simp only [maxLen] at hcm; omega
  have hu36 := Try.underlying36
  have hu63 := Try.underlying63
  clear hr hcm
  go_enter Try.func6, Try.ntmps6
  go_wp2_with (first
    | (go_at_call 15; refine (new_calls _).mono ?_; rintro e w1 ⟨g, b, rfl, ht1, hf1, hg1, hb1⟩; have HT1 := Aside0.mk ht1; have HF1 := Aside0.mk hf1; have HG := Aside0.mk hg1; have HB := Aside0.mk hb1; clear ht1 hf1 hg1 hb1))
  obtain ⟨gr, hgr⟩ : ∃ gr, gr = w1.heap.size := ⟨_, rfl⟩
  rw [← hgr]
  have HGR := Aside0.mk hgr
  have HGW := Aside0.mk (show w.heap.size ≤ gr by rw [hgr]; exact HF1.out.size)
  clear hgr
  go_loopw [3, 5] (fun v3 v5 wr => ∃ (k g b n : Nat) (f : ByteArray → Option Int) (L : List NT), k ≤ l.length ∧ k ≤ 40 ∧ v3 = .pointer (some ⟨g, 0, none⟩) ∧ v5 = .int .i64 k ∧ Aside0 (PInv w wr g b gr n f L k)) (fun _ v5 _ => l.length - (intOf v5).toNat)
  case atStart =>
    refine ⟨0, g, b, 0, _, [], Nat.zero_le _, by omega, rfl, rfl, ⟨HT1.out.fr ((Fr.refl w1 no).alloc _) (fun h => h) (fun h => h), ?_, inv_nil, (fun s c _ h => by cases h), by omega, by simp, (HF1.out.then_ ((Fr.refl w1 no).alloc _) (fun _ h => h.elim)).no_below, HG.out, HB.out⟩⟩
    rw [HGR.out]
    exact ⟨none, 0, heap_alloc_new w1 _, Nat.le_refl _, Nat.zero_le _, (fun j hj => by simp at hj), (fun ad h => by cases h)⟩
  case round =>
    obtain ⟨k, g, b, n, f, L, hk, hk40, rfl, rfl, HI⟩ := hrel
    by_cases hlt : k < l.length ∧ k < 40
    · obtain ⟨hlt, hlt40⟩ := hlt
      have hsc := HR.out.below stable_op HI.out.fr
      obtain ⟨ad, An, cn, e, hc0, hc1, hc2, hc3, hcn, hcm, hC, hsz, hwf⟩ := op_cells hsc k hlt
      cases e
      obtain ⟨o, ho⟩ : ∃ o, o = l[k] := ⟨_, rfl⟩
      rw [← ho] at hc0 hc1 hc2 hc3 hcn hC hsz
      have HC := Aside0.mk hC
      have HSZ := Aside0.mk hsz
      have hol : o.names.length ≤ 9223372036854775807 := by simp only [maxLen] at hcm; omega
      have HCN := Aside0.mk hcn
      obtain ⟨bx, hbx⟩ : ∃ bx, bx = wr.heap.size := ⟨_, rfl⟩
      have HBX := Aside0.mk hbx
      have hba := heap_alloc_new wr (.cells #[.int .i64 o.kind, .slice An o.names.length cn, .int .i64 o.now, .int .i64 o.long] 36)
      rw [← hbx] at hba
      have HBA := Aside0.mk hba
      clear hsc hC hsz ho hcm hcn hwf hba
      cases hlb : lightB o.names with
      | false =>
        have HLB := Aside0.mk hlb
        clear hlb
        go_wp2_with (first
          | (go_at_call 19; refine (light_calls _ _ _ _ An cn o.names (Kd.C_below HC.out (Fr.no_below ((Fr.refl wr no).alloc _))) hol).mono ?_; rintro e w2 ⟨rfl, hf2⟩; rw [HLB.out]; have HF2 := Aside0.mk hf2; clear hf2))
        go_roundw
        case rel => exact ⟨k + 1, g, b, n, f, L, by omega, by omega, rfl, by go_num, ⟨(HI.out.no (((Fr.refl wr no).alloc _).then_ HF2.out (fun _ h => h.elim))).up⟩⟩
        case measure => simp [intOf]; omega
      | true =>
        have HLB := Aside0.mk hlb
        have hl20 : o.names.length ≤ 20 := by unfold lightB at hlb; simp at hlb; exact hlb.1
        have HL20 := Aside0.mk hl20
        clear hlb hl20 hbx
        obtain ⟨nm, hnm⟩ : ∃ nm, nm = nameOf o.names := ⟨_, rfl⟩
        have hnms : nm.size ≤ maxLen := by
          rw [hnm]
          cases hn : o.names with
          | nil => simp [nameOf, maxLen, ByteArray.size]
          | cons s r => exact HSZ.out s (by rw [hn]; simp)
        have HNMS := Aside0.mk hnms
        have hcell0 : 0 < o.names.length → ∃ adn, An = some adn ∧ wr.cell? adn = some (.string nm) := by
          intro h0
          obtain ⟨adn, en, hcn⟩ := Kd.at_string HC.out 0 (by omega) (by omega)
          refine ⟨adn, en, ?_⟩
          rw [show adn.add (0 : Int).toNat = adn from rfl] at hcn
          rw [hnm]
          cases hn : o.names with
          | nil => rw [hn] at h0; simp at h0
          | cons s r => rw [hn] at hcn; simpa [rdOf, nameOf] using hcn
        have hemp : ¬ 0 < o.names.length → nm = ⟨#[]⟩ := by
          intro h0
          rw [hnm]
          cases hn : o.names with
          | nil => rfl
          | cons s r => rw [hn] at h0; simp at h0
        have HC0 := Aside0.mk hcell0
        have HEM := Aside0.mk hemp
        clear hnms hcell0 hemp hnm
        go_upto_if 38 with (first
          | (go_at_call 19; refine (light_calls _ _ _ _ _ cn o.names (Kd.C_below HC.out (Fr.no_below ((Fr.refl wr no).alloc _))) hol).mono ?_; rintro e w2 ⟨rfl, hf2⟩; rw [HLB.out, ← HBX.out]; have HF2 := Aside0.mk hf2; have hb := blk_fr HBA.out HF2.out (fun h => h); have HB2 := Aside0.mk hb; have HP2 := Aside0.mk (HI.out.no (((Fr.refl wr no).alloc _).then_ HF2.out (fun _ h => h.elim))); have HC2 := Aside0.mk (Kd.C_below HC.out (Fr.no_below (((Fr.refl wr no).alloc _).then_ HF2.out (fun _ h => h.elim)))); have hb0 : w2.cell? ⟨bx, 0, none⟩ = some (.int .i64 o.kind) := (blk_cell hb 0).trans rfl; have hb1 : w2.cell? ⟨bx, 1, none⟩ = some (.slice _ o.names.length cn) := (blk_cell hb 1).trans rfl; have hb2 : w2.cell? ⟨bx, 2, none⟩ = some (.int .i64 o.now) := (blk_cell hb 2).trans rfl; have hb3 : w2.cell? ⟨bx, 3, none⟩ = some (.int .i64 o.long) := (blk_cell hb 3).trans rfl; have hn0 : ∀ adn, An = some adn → wr.cell? adn = some (.string nm) → w2.cell? adn = some (.string nm) := (fun adn _ h => cell_fr (cell_fr h ((Fr.refl wr no).alloc _) (fun h => h)) HF2.out (fun h => h)); have HN0 := Aside0.mk hn0; clear hf2 hb hn0))
        go_cut [7] from 18 to 117 (fun v7 wc => v7 = .string nm ∧ wc = w2)
        case first =>
          by_cases hnz : 0 < o.names.length
          · obtain ⟨adn, en, hcn⟩ := HC0.out hnz
            have hn0 := HN0.out adn en hcn
            subst en
            have hnz2 : (0 : Int) < o.names.length := by omega
            have hdz : decide (0 < (o.names.length : Int)) = true := decide_eq_true (by omega)
            have hdz2 : decide (0 < o.names.length) = true := decide_eq_true hnz
            clear hcn
            go_wp2_with fail
            go_meet
            exact ⟨rfl, rfl⟩
          · have he := HEM.out hnz
            have hdz : decide (0 < (o.names.length : Int)) = false := decide_eq_false (by omega)
            have hdz2 : decide (0 < o.names.length) = false := decide_eq_false hnz
            have HE := Aside0.mk he
            clear he
            go_wp2_with fail
            go_meet
            exact ⟨by rw [HE.out], rfl⟩
        case rest =>
        obtain ⟨rfl, rfl⟩ := hcut
        go_upto_block 2 with fail
        go_cut [3, 8] from 18 to 117 (fun v3 v8 wd => ∃ (g b n : Nat) (f : ByteArray → Option Int) (L : List NT), v3 = .pointer (some ⟨g, 0, none⟩) ∧ Aside0 (PInv w wd g b gr n f L (k + 1)) ∧ Aside0 (wd.cell? ⟨bx, 2, none⟩ = some (.int .i64 o.now)) ∧ Aside0 (wd.cell? ⟨bx, 3, none⟩ = some (.int .i64 o.long)))
        case first =>
          have HD1 := Aside0.mk hb1
          have HD2 := Aside0.mk hb2
          have HD3 := Aside0.mk hb3
          have HTM := Aside0.mk (box_not_tab HP2.out.rt HB2.out)
          by_cases hk0 : o.kind = 0
          · have hkb : (o.kind == 0) = true := by simp [hk0]
            clear hk0
            go_wp2_with fail
            refine (note_calls wc g b n f An cn o.names o.now HP2.out.tt HC2.out HCN.out HSZ.out ?_).mono ?_
            · have := HL20.out; have := HP2.out.len; omega
            rintro e w3 ⟨rfl, ht3, hf3⟩
            have hrt := rt_map HP2.out.rt HP2.out.tt.map hf3
            have hne : bx ≠ b := cell_not_map HP2.out.tt.map HD1.out
            have hC3 := kd_fr HC2.out hol hf3 (fun a s h => cell_not_map HP2.out.tt.map h)
            have hd1 := cell_fr HD1.out hf3 hne
            have hd2 := cell_fr HD2.out hf3 hne
            have HD23 := Aside0.mk hd2
            have HD33 := Aside0.mk (cell_fr HD3.out hf3 hne)
            have HT3 := Aside0.mk ht3; have HF3 := Aside0.mk hf3; have HRT := Aside0.mk hrt; have HC3 := Aside0.mk hC3
            clear ht3 hf3 hrt hC3 hne hb0 hb1 hb2 hb3
            go_wp2_with fail
            refine (rnote_calls w3 gr L f An cn o.names o.now HRT.out HP2.out.inv ?_ HC3.out HSZ.out).mono ?_
            · have := HL20.out; have := HP2.out.llen; omega
            rintro e w4 ⟨L', rfl, hrt4, hi4, hl4, hf4⟩
            have HRT4 := Aside0.mk hrt4; have HI4 := Aside0.mk hi4; have HL4 := Aside0.mk hl4; have HF4 := Aside0.mk hf4
            clear hrt4 hi4 hl4 hf4
            go_wp2_with fail
            go_meet
            have hgb := tt_rt HT3.out HRT.out
            refine ⟨g, b, _, _, L', rfl, ⟨⟨HT3.out.fr HF4.out hgb.1 hgb.2, HRT4.out, HI4.out, noteF_times HP2.out.times _ _, ?_, ?_, below_fr (below_fr HP2.out.fr HF3.out ?_) HF4.out ?_, HP2.out.g0, HP2.out.b0⟩⟩, ⟨cell_fr HD23.out HF4.out HTM.out⟩, ⟨cell_fr HD33.out HF4.out HTM.out⟩⟩
            · have := HL20.out; have := HP2.out.len; omega
            · have := HL20.out; have := HP2.out.llen; have := HL4.out; omega
            · intro j hj; rw [hj]; exact HP2.out.b0
            · intro j hj; rw [hj]; exact HGW.out
          · have hkb : (o.kind == 0) = false := by simp [hk0]
            clear hk0
            by_cases hk1 : o.kind = 1
            · have hkb1 : (o.kind == 1) = true := by simp [hk1]
              clear hk1
              go_wp2_with fail
              refine (drop_calls wc g b n f nm HP2.out.tt HNMS.out).mono ?_
              rintro e w3 ⟨rfl, ht3, hf3⟩
              have hrt := rt_map HP2.out.rt HP2.out.tt.map hf3
              have hne : bx ≠ b := cell_not_map HP2.out.tt.map HD1.out
              have HD23 := Aside0.mk (cell_fr HD2.out hf3 hne)
              have HD33 := Aside0.mk (cell_fr HD3.out hf3 hne)
              have HT3 := Aside0.mk ht3; have HF3 := Aside0.mk hf3; have HRT := Aside0.mk hrt
              clear ht3 hf3 hrt hne hb0 hb1 hb2 hb3
              go_wp2_with fail
              refine (rdrop_calls w3 gr L nm HRT.out ?_).mono ?_
              · have := HP2.out.llen; omega
              rintro e w4 ⟨rfl, hrt4, hf4⟩
              have HRT4 := Aside0.mk hrt4; have HF4 := Aside0.mk hf4
              clear hrt4 hf4
              go_wp2_with fail
              go_meet
              have hgb := tt_rt HT3.out HRT.out
              refine ⟨g, b, _, _, _, rfl, ⟨⟨HT3.out.fr HF4.out hgb.1 hgb.2, HRT4.out, HP2.out.inv.drop nm, ?_, ?_, ?_, below_fr (below_fr HP2.out.fr HF3.out ?_) HF4.out ?_, HP2.out.g0, HP2.out.b0⟩⟩, ⟨cell_fr HD23.out HF4.out HTM.out⟩, ⟨cell_fr HD33.out HF4.out HTM.out⟩⟩
              · intro s c hs h
                unfold del at h
                split at h
                · cases h
                · exact HP2.out.times s c hs h
              · have := HP2.out.len; omega
              · have := HP2.out.llen; have := List.length_filter_le (keepB nm) L; omega
              · intro j hj; rw [hj]; exact HP2.out.b0
              · intro j hj; rw [hj]; exact HGW.out
            · have hkb1 : (o.kind == 1) = false := by simp [hk1]
              clear hk1
              go_wp2_with fail
              refine (copy_yes wc g b n f HP2.out.tt ?_).mono ?_
              · have := HP2.out.len; omega
              rintro e w3 ⟨g2, b2, rfl, ht3, hf3, hg2, hb2'⟩
              have hgl := blk_lt HP2.out.tt.blk
              have hbl := HP2.out.tt.map.lt
              have hne : bx ≠ b := cell_not_map HP2.out.tt.map HD1.out
              have HNE := Aside0.mk hne
              have HD23 := Aside0.mk (cell_fr HD2.out hf3 (fun h => h))
              have HD33 := Aside0.mk (cell_fr HD3.out hf3 (fun h => h))
              have HT3 := Aside0.mk ht3; have HF3 := Aside0.mk hf3
              have HG2 := Aside0.mk (show g2 ≠ b by omega); have HB2' := Aside0.mk (show b2 ≠ b by omega)
              have HGG := Aside0.mk hg2; have HBB := Aside0.mk hb2'
              clear ht3 hf3 hne hb0 hb1 hb2 hb3 hg2 hb2' hgl hbl
              go_wp2_with fail
              refine (note_calls w3 g b n f none 0 [] 1 (HP2.out.tt.fr HF3.out (fun h => h) (fun h => h)) (kd_nil w3) (Nat.le_refl _) (fun s h => by cases h) ?_).mono ?_
              · have := HP2.out.len; simp; omega
              rintro e w4 ⟨rfl, ht4, hf4⟩
              have HF4 := Aside0.mk hf4
              clear ht4 hf4
              go_wp2_with fail
              go_meet
              have hrt4 := rt_map (HP2.out.rt.no HF3.out) (HP2.out.tt.fr HF3.out (fun h => h) (fun h => h)).map HF4.out
              have hsz := HP2.out.fr.size
              refine ⟨g2, b2, n, f, L, rfl, ⟨⟨HT3.out.fr HF4.out HG2.out HB2'.out, hrt4, HP2.out.inv, HP2.out.times, ?_, ?_, below_fr (below_fr HP2.out.fr HF3.out (fun j hj => hj.elim)) HF4.out ?_, Nat.le_trans hsz HGG.out, Nat.le_trans hsz HBB.out⟩⟩, ⟨cell_fr HD23.out HF4.out HNE.out⟩, ⟨cell_fr HD33.out HF4.out HNE.out⟩⟩
              · have := HP2.out.len; omega
              · have := HP2.out.llen; omega
              · intro j hj; rw [hj]; exact HP2.out.b0
        case rest =>
        clear HP2 HI HC2 HB2 hb0 hb1 hb2 hb3 HF2 HBA HC HC0 HEM hc0 hc1 hc2 hc3
        obtain ⟨g, b, n, f, L, rfl, HP, HD2, HD3⟩ := hcut
        have hlL : L.length < 1000000000 := by have := HP.out.llen; omega
        have hnn : n < 1000000000 := by have := HP.out.len; omega
        have HLL := Aside0.mk hlL
        have HNN := Aside0.mk hnn
        obtain ⟨nl, hnl⟩ : ∃ nl, nl = L.map NT.name := ⟨_, rfl⟩
        obtain ⟨rl, hrl⟩ : ∃ rl, rl = rRipe L o.now o.long := ⟨_, rfl⟩
        have HNLL := Aside0.mk (show nl.length < 1000000000000 by rw [hnl, List.length_map]; omega)
        have HRLL := Aside0.mk (show rl.length < 1000000000000 by
          rw [hrl]; unfold rRipe
          split
          · rw [List.length_map]; have := List.length_filter_le (fun n : NT => decide (o.long ≤ o.now - n.since)) L; omega
          · simp)
        have HC17 := Aside0.mk (since_calls wc g b n f nm HP.out.tt HNMS.out)
        have HC43 := Aside0.mk (show Calls Try.prog 43 #[.pointer (some ⟨gr, 0, none⟩), .string nm] wc fun e w' => e = .returned (.tuple #[.int .i64 ((f nm).getD 0), .bool (f nm).isSome]) ∧ wc = w' from HP.out.inv.look_eq nm ▸ rsince_calls wc gr L nm HP.out.rt)
        have HC20 := Aside0.mk (show ∀ W, Fr no wc W → Calls Try.prog 20 #[.pointer (some ⟨g, 0, none⟩)] W (LPost W nl) from fun W h => hnl ▸ names_is W g b n f L (HP.out.tt.fr h (fun h => h) (fun h => h)) HNN.out HP.out.inv)
        have HC44 := Aside0.mk (show ∀ W, Fr no wc W → Calls Try.prog 44 #[.pointer (some ⟨gr, 0, none⟩)] W (RNamesPost W nl) from fun W h => hnl ▸ rnames_calls W gr L (HP.out.rt.no h) HLL.out)
        have HC18 := Aside0.mk (show ∀ W, Fr no wc W → Calls Try.prog 18 #[.pointer (some ⟨g, 0, none⟩), .int .i64 o.now, .int .i64 o.long] W (LPost W rl) from fun W h => hrl ▸ ripe_is W g b n f L o.now o.long (HP.out.tt.fr h (fun h => h) (fun h => h)) HNN.out HP.out.times HP.out.inv)
        have HC45 := Aside0.mk (show ∀ W, Fr no wc W → Calls Try.prog 45 #[.pointer (some ⟨gr, 0, none⟩), .int .i64 o.now, .int .i64 o.long] W (RNamesPost W rl) from fun W h => hrl ▸ rripe_calls W gr L o.now o.long (HP.out.rt.no h) HLL.out (inv_times HP.out.inv HP.out.times))
        obtain ⟨fv, hfv⟩ : ∃ fv, fv = (f nm).getD 0 := ⟨_, rfl⟩
        obtain ⟨iv, hiv⟩ : ∃ iv, iv = (f nm).isSome := ⟨_, rfl⟩
        rw [← hfv, ← hiv] at HC17 HC43
        clear hfv hiv hnl hrl hlL hnn
        go_upto_region 27 with (first
          | (go_at_call 17; refine HC17.out.mono ?_; rintro e w' ⟨rfl, rfl⟩)
          | (go_at_call 43; refine HC43.out.mono ?_; rintro e w' ⟨rfl, rfl⟩))
        clear HC17 HC43
        go_cut [117] from 18 to 117 (fun v117 wd => v117 = .bool false ∧ Aside0 (Fr no wc wd))
        case first =>
          go_region_held3 (fun W => W.cell? ⟨bx, 2, none⟩ = some (.int .i64 o.now) ∧ W.cell? ⟨bx, 3, none⟩ = some (.int .i64 o.long)) (first
            | exact ⟨HD2.out, HD3.out⟩
            | exact ⟨cell_fr HD2.out HA6.out (fun h => h), cell_fr HD3.out HA6.out (fun h => h)⟩
            | exact ⟨cell_fr HD2.out HA7.out (fun h => h), cell_fr HD3.out HA7.out (fun h => h)⟩
            | exact ⟨cell_fr HD2.out HA8.out (fun h => h), cell_fr HD3.out HA8.out (fun h => h)⟩
            | exact ⟨cell_fr HD2.out HA9.out (fun h => h), cell_fr HD3.out HA9.out (fun h => h)⟩
            | exact ⟨cell_fr HD2.out HA10.out (fun h => h), cell_fr HD3.out HA10.out (fun h => h)⟩
            | exact ⟨cell_fr HD2.out HA11.out (fun h => h), cell_fr HD3.out HA11.out (fun h => h)⟩)
            (first
            | (go_at_call 20; refine (HC20.out _ (Fr.refl wc no).drew).mono ?_; rintro e w6 ⟨v6, rfl, ho6, hf6⟩; obtain ⟨A6, c6, rfl, hle6, hC6⟩ := ho6.form; have HA6 := Aside0.mk ((Fr.refl wc no).drew.then_ hf6 (fun _ h => h.elim)); have HC6 := Aside0.mk hC6; clear ho6 hf6 hle6 hC6)
            | (go_at_call 44; refine (HC44.out _ HA6.out).mono ?_; rintro e w7 ⟨v7, rfl, ho7, hf7⟩; obtain ⟨A7, c7, rfl, hle7, hC7⟩ := ho7.form; have HA7 := Aside0.mk (HA6.out.then_ hf7 (fun _ h => h.elim)); have HC67 := Aside0.mk (Kd.C_below HC6.out hf7.no_below); have HC7 := Aside0.mk hC7; clear ho7 hf7 hle7 hC7 HC6)
            | (go_at_call 35; refine (texts_same _ _ _ nl _ _ HC67.out HC7.out HNLL.out).mono ?_; rintro e w8 ⟨rfl, hf8⟩; have HA8 := Aside0.mk (HA7.out.then_ hf8 (fun _ h => h.elim)); clear hf8 HC67 HC7)
            | (go_at_call 18; refine (HC18.out _ HA8.out).mono ?_; rintro e w9 ⟨v9, rfl, ho9, hf9⟩; obtain ⟨A9, c9, rfl, hle9, hC9⟩ := ho9.form; have HA9 := Aside0.mk (HA8.out.then_ hf9 (fun _ h => h.elim)); have HC9 := Aside0.mk hC9; clear ho9 hf9 hle9 hC9)
            | (go_at_call 45; refine (HC45.out _ HA9.out).mono ?_; rintro e w10 ⟨v10, rfl, ho10, hf10⟩; obtain ⟨A10, c10, rfl, hle10, hC10⟩ := ho10.form; have HA10 := Aside0.mk (HA9.out.then_ hf10 (fun _ h => h.elim)); have HC910 := Aside0.mk (Kd.C_below HC9.out hf10.no_below); have HC10 := Aside0.mk hC10; clear ho10 hf10 hle10 hC10 HC9)
            | (go_at_call 35; refine (texts_same _ _ _ rl _ _ HC910.out HC10.out HRLL.out).mono ?_; rintro e w11 ⟨rfl, hf11⟩; have HA11 := Aside0.mk (HA10.out.then_ hf11 (fun _ h => h.elim)); clear hf11 HC910 HC10))
          go_wp2_with fail
          go_meet
          exact ⟨rfl, HA11⟩
        case rest =>
        obtain ⟨rfl, HA⟩ := hcut
        go_wp2_with fail
        go_roundw
        case rel =>
          exact ⟨k + 1, g, b, n, f, L, by omega, by omega, rfl, by go_num, ⟨HP.out.no HA.out⟩⟩
        case measure => simp [intOf]; omega
    · by_cases hlt1 : k < l.length
      · have hd40 : ¬ (k < 40) := fun h => hlt ⟨hlt1, h⟩
        clear hlt
        go_wp2_with fail
        refine (known_calls wr).mono ?_
        rintro e w5 ⟨rfl, hbl⟩
        have HBL := Aside0.mk hbl
        clear hbl
        go_wp2_with fail
        go_ret
        exact ⟨rfl, HI.out.fr.trans (HBL.out.mono HI.out.fr.size)⟩
      · obtain rfl : k = l.length := by omega
        clear hlt
        go_wp2_with fail
        refine (known_calls wr).mono ?_
        rintro e w5 ⟨rfl, hbl⟩
        have HBL := Aside0.mk hbl
        clear hbl
        go_wp2_with fail
        go_ret
        exact ⟨rfl, HI.out.fr.trans (HBL.out.mono HI.out.fr.size)⟩

end Go.Proofs.Ytdpchfifaidamaa.T
