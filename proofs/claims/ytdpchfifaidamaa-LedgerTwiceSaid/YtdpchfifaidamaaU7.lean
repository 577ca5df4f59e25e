/- The walk of group.Right; what light groups are. No condition. -/
import Derived.Test.YtdpchfifaidamaaU6
namespace Go.Proofs.Ytdpchfifaidamaa.U
open Go.RowKit Go.Maps Go.Proofs.YtdpchfifaidamaaW.PrintWords Go.Proofs.YtdpchfifaidamaaW.PrintLast Go.Proofs.Ytdpchfifaidamaa.B Go.Proofs.Ytdpchfifaidamaa.PLedgerTells
set_option linter.unusedVariables false
set_option linter.unusedSimpArgs false

structure OkA (g : S76) : Prop where
  ok : OkG g
  ll : g.f3.f3.length ≤ 1000000
  tl : g.f3.f4.length ≤ 1000000
structure GR (w wr : World) (l : List S76) (i : Nat) : Prop where
  fr : Fr no w wr
  ok : allF (grp1 l) i 0 = true
theorem groups_no {l : List S76} {i : Nat} (hi : i < l.length) (hp : grp1 l i = false) : groupsB l = false := by
  unfold groupsB
  rw [allF_no hi hp, Bool.and_false]
theorem groups_end {l : List S76} (h : allF (grp1 l) l.length 0 = true) : groupsB l = decide (l.length ≤ 16) := by
  unfold groupsB
  rw [h, Bool.and_true]
theorem gfind_calls (w : World) (A : Option Addr) (c : Nat) (l : List S76) (s : ByteArray) (hr : Kd.C k76 w A l.length l) (hc : l.length ≤ c) (hl : l.length ≤ 1000000) :
    Calls Try.prog 91 #[.slice A l.length c, .string s] w fun e w' => e = .returned (.int .i64 (findN l s)) ∧ Fr no w w' := by
  obtain ⟨k, hk⟩ := (gfind_ev l hl s).rounds
  exact (group_Find.calls k A c l s (findN l s) w hr hc hk).mono fun e w' h => ⟨h.1, Fr.of_below h.2 _⟩
theorem rfind_calls (w : World) (A : Option Addr) (c : Nat) (l : List S76) (s : ByteArray) (hr : Kd.C k76 w A l.length l) (hc : l.length ≤ c) (hl : l.length ≤ 1000000) :
    Calls Try.prog 101 #[.slice A l.length c, .string s] w fun e w' => e = .returned (.int .i64 (findN l s)) ∧ Drawn0 w w' := by
  obtain ⟨k, hk⟩ := (find_ev l hl s).rounds
  exact triremeref16_Find.calls k A c l s (findN l s) w hr hc hk
theorem rgroups_calls (w : World) (A : Option Addr) (c : Nat) (l : List S76) (hr : Kd.C k76 w A l.length l) (hc : l.length ≤ c) (hk : ∀ i, OkA (l.getD i z76)) :
    Calls Try.prog 69 #[.slice A l.length c] w fun e w' => e = .returned (.bool (groupsB l)) ∧ Fr no w w' := by
  obtain ⟨k, hk⟩ := (right16_ev l ⟨fun i => (hk i).ok⟩).rounds
  exact (triremeref16_Right.calls k A c l (groupsB l) w hr hc hk).mono fun e w' h => ⟨h.1, Fr.of_below h.2 _⟩
set_option maxRecDepth 100000 in
set_option maxHeartbeats 4000000 in
theorem groups_calls (w : World) (A : Option Addr) (c : Nat) (l : List S76) (hr : Kd.C k76 w A l.length l) (hc : l.length ≤ c) (hl : l.length ≤ 1000000) (hk : ∀ i, OkA (l.getD i z76)) :
    Calls Try.prog 90 #[.slice A l.length c] w fun e w' => e = .returned (.bool (groupsB l)) ∧ Fr no w w' := by
  have HR := Aside0.mk hr
  have HK := Aside0.mk hk
  have HLEN := Aside0.mk hl
  have HC := Aside0.mk hc
  have hu76 := Try.underlying76
  clear hr hk hc
  go_enter Try.func90, Try.ntmps90
  go_wp2
  go_loopw [3, 4, 7] (fun v3 v4 v7 wr => ∃ i : Nat, i ≤ l.length ∧ v7 = .int .i64 i ∧ Aside0 (GR w wr l i)) (fun _ _ v7 _ => l.length - (intOf v7).toNat)
  case atStart => exact ⟨0, by omega, rfl, ⟨⟨Fr.refl _ _, rfl⟩⟩⟩
  case round =>
    obtain ⟨i, hi, rfl, HI⟩ := hrel
    by_cases hlt : i < l.length
    · obtain ⟨ad, A10, c10, A11, c11, e, hq0, hq1, hq2, hq3, hq4, hq5, hq6, hq7, hq8, hq9, hq10, hq11, hq12, hq13, hq14, l10, g10, l11, g11⟩ := at_T76 HR.out (i : Int) (by omega) (by omega)
      cases e
      rw [Int.toNat_natCast] at hq0 hq1 hq2 hq3 hq4 hq5 hq6 hq7 hq8 hq9 hq10 hq11 hq12 hq13 hq14
      have e0 : rd_T76 l (i : Int) = l.getD i z76 := by unfold rd_T76; simp
      rw [e0] at hq0 hq1 hq2 hq3 hq4 hq5 hq6 hq7 hq8 hq9 hq10 hq11 hq12 hq13 hq14 l10 g10 l11 g11
      obtain ⟨x, hx⟩ : ∃ x, x = l.getD i z76 := ⟨_, rfl⟩
      rw [← hx] at hq0 hq1 hq2 hq3 hq4 hq5 hq6 hq7 hq8 hq9 hq10 hq11 hq12 hq13 hq14 l10 g10 l11 g11
      have hp0 := cell_fr hq0 HI.out.fr (fun h => h)
      have hp1 := cell_fr hq1 HI.out.fr (fun h => h)
      have hp2 := cell_fr hq2 HI.out.fr (fun h => h)
      have hp3 := cell_fr hq3 HI.out.fr (fun h => h)
      have hp4 := cell_fr hq4 HI.out.fr (fun h => h)
      have hp5 := cell_fr hq5 HI.out.fr (fun h => h)
      have hp6 := cell_fr hq6 HI.out.fr (fun h => h)
      have hp7 := cell_fr hq7 HI.out.fr (fun h => h)
      have hp8 := cell_fr hq8 HI.out.fr (fun h => h)
      have hp9 := cell_fr hq9 HI.out.fr (fun h => h)
      have hp10 := cell_fr hq10 HI.out.fr (fun h => h)
      have hp11 := cell_fr hq11 HI.out.fr (fun h => h)
      have hp12 := cell_fr hq12 HI.out.fr (fun h => h)
      have hp13 := cell_fr hq13 HI.out.fr (fun h => h)
      have hp14 := cell_fr hq14 HI.out.fr (fun h => h)
      have HOK := Aside0.mk (show OkA x from hx ▸ HK.out i)
      have HML := Aside0.mk (show MLead wr x.f3 A10 c10 A11 c11 from MLead.no ⟨g10, g11, l10, l11, HOK.out.ll, HOK.out.tl, HOK.out.ok.like⟩ HI.out.fr)
      obtain ⟨bx, hbx⟩ : ∃ bx, bx = wr.heap.size := ⟨_, rfl⟩
      have HBX := Aside0.mk hbx
      have hba := heap_alloc_new wr (.cells #[.string x.f0, .int .i64 x.f1, .int .i64 x.f2, .string x.f3.f0, .string x.f3.f1, .int .i64 x.f3.f2.f0, .int .i64 x.f3.f2.f1, .int .i64 x.f3.f2.f2, .int .i64 x.f3.f2.f3, .int .i64 x.f3.f2.f4, .slice A10 x.f3.f3.length c10, .slice A11 x.f3.f4.length c11, .bool x.f3.f5, .int .i64 x.f4, .int .i64 x.f5] 76)
      rw [← hbx] at hba
      have HBA := Aside0.mk hba
      have HI0 := Aside0.mk (HI.out.fr.then_ ((Fr.refl wr no).alloc (.cells #[.string x.f0, .int .i64 x.f1, .int .i64 x.f2, .string x.f3.f0, .string x.f3.f1, .int .i64 x.f3.f2.f0, .int .i64 x.f3.f2.f1, .int .i64 x.f3.f2.f2, .int .i64 x.f3.f2.f3, .int .i64 x.f3.f2.f4, .slice A10 x.f3.f3.length c10, .slice A11 x.f3.f4.length c11, .bool x.f3.f5, .int .i64 x.f4, .int .i64 x.f5] 76)) (fun _ h => .inl h))
      have HMA := Aside0.mk (HML.out.no ((Fr.refl wr no).alloc (.cells #[.string x.f0, .int .i64 x.f1, .int .i64 x.f2, .string x.f3.f0, .string x.f3.f1, .int .i64 x.f3.f2.f0, .int .i64 x.f3.f2.f1, .int .i64 x.f3.f2.f2, .int .i64 x.f3.f2.f3, .int .i64 x.f3.f2.f4, .slice A10 x.f3.f3.length c10, .slice A11 x.f3.f4.length c11, .bool x.f3.f5, .int .i64 x.f4, .int .i64 x.f5] 76)))
      have HX0 := Aside0.mk hx
      clear hq0 hq1 hq2 hq3 hq4 hq5 hq6 hq7 hq8 hq9 hq10 hq11 hq12 hq13 hq14 l10 g10 l11 g11 e0 hx hbx hba HML
      obtain ⟨b1, h1⟩ : ∃ b, b = groupB x := ⟨_, rfl⟩
      obtain ⟨fi, hfi⟩ : ∃ fi, fi = findN l x.f0 := ⟨_, rfl⟩
      have HALL := Aside0.mk (show grp1 l i = (b1 && (decide (x.f0.size ≤ 48) && decide (fi = i))) from by rw [h1, hfi, HX0.out]; rfl)
      have H1 := Aside0.mk h1.symm
      have HF := Aside0.mk hfi.symm
      clear h1 hfi
      have leaves : (grp1 l i = false ∧ (b1 = false ∨ (b1 = true ∧ 48 < x.f0.size) ∨ (b1 = true ∧ x.f0.size ≤ 48 ∧ fi ≠ i))) ∨ (grp1 l i = true ∧ b1 = true ∧ x.f0.size ≤ 48 ∧ fi = i) := by
        rw [HALL.out]
        cases b1 with
        | false => exact .inl ⟨rfl, .inl rfl⟩
        | true =>
          by_cases h2 : x.f0.size ≤ 48
          · by_cases h3 : fi = i
            · exact .inr ⟨by rw [decide_eq_true h2, decide_eq_true h3]; rfl, rfl, h2, h3⟩
            · exact .inl ⟨by rw [decide_eq_false h3, Bool.and_false, Bool.and_false], .inr (.inr ⟨rfl, h2, h3⟩)⟩
          · exact .inl ⟨by rw [decide_eq_false h2]; rfl, .inr (.inl ⟨rfl, by omega⟩)⟩
      have LV := Aside0.mk leaves
      clear leaves HALL HX0
      rcases LV.out with ⟨hno, hc⟩ | ⟨hok, hb1, h48, hfe⟩
      · have HNO := Aside0.mk hno
        clear hno LV
        rcases hc with rfl | ⟨rfl, h48⟩ | ⟨rfl, h48, hfe⟩
        case' inr.inl => have hd48 : decide ((48 : Int) < x.f0.size) = true := (decide_eq_true (by omega)); have hd48' : decide (48 < x.f0.size) = true := (decide_eq_true h48)
        case' inr.inr => have hd48 : decide ((48 : Int) < x.f0.size) = false := (decide_eq_false (by omega)); have hd48' : decide (48 < x.f0.size) = false := (decide_eq_false (by omega)); have hfb : (fi != (i : Int)) = true := (by simpa using hfe); have hfb' : (fi == (i : Int)) = false := (by simpa using hfe)
        all_goals
          go_wp2_with (first
            | (go_at_call 118; refine (group_calls _ x A10 c10 A11 c11 HMA.out HOK.out.ok.name).mono ?_; rintro e w3 ⟨rfl, hf3⟩; rw [H1.out, ← HBX.out]; have HA := Aside0.mk hf3; clear hf3; have hb := blk_fr HBA.out HA.out (fun h => h); have hy0 : w3.cell? ⟨bx, 0, none⟩ = some (.string x.f0) := (blk_cell hb 0).trans rfl; clear hb)
            | (go_at_call 91; refine (gfind_calls _ (some ad) c l x.f0 (Kd.C_below HR.out (HI0.out.then_ HA.out (fun _ h => .inl h)).no_below) HC.out HLEN.out).mono ?_; rintro e w4 ⟨rfl, hf4⟩; rw [HF.out]; replace HA := Aside0.mk (HA.out.then_ hf4 (fun _ h => .inl h)); clear hf4))
          go_ret
          exact ⟨by rw [groups_no hlt HNO.out]; rfl, HI0.out.then_ HA.out (fun _ h => .inl h)⟩
      · have HY := Aside0.mk hok
        subst hb1
        subst hfe
        have hd48 : decide ((48 : Int) < x.f0.size) = false := decide_eq_false (by omega)
        have hd48' : decide (48 < x.f0.size) = false := decide_eq_false (by omega)
        clear hok LV h48
        go_wp2_with (first
          | (go_at_call 118; refine (group_calls _ x A10 c10 A11 c11 HMA.out HOK.out.ok.name).mono ?_; rintro e w3 ⟨rfl, hf3⟩; rw [H1.out, ← HBX.out]; have HA := Aside0.mk hf3; clear hf3; have hb := blk_fr HBA.out HA.out (fun h => h); have hy0 : w3.cell? ⟨bx, 0, none⟩ = some (.string x.f0) := (blk_cell hb 0).trans rfl; clear hb)
          | (go_at_call 91; refine (gfind_calls _ (some ad) c l x.f0 (Kd.C_below HR.out (HI0.out.then_ HA.out (fun _ h => .inl h)).no_below) HC.out HLEN.out).mono ?_; rintro e w4 ⟨rfl, hf4⟩; rw [HF.out]; replace HA := Aside0.mk (HA.out.then_ hf4 (fun _ h => .inl h)); clear hf4))
        all_goals
          go_roundw
          case rel => exact ⟨i + 1, by omega, by go_num, ⟨⟨HI0.out.then_ HA.out (fun _ h => .inl h), allF_succ HI.out.ok HY.out⟩⟩⟩
          case measure => simp [intOf]; omega
    · obtain rfl : i = l.length := by omega
      have HEND := Aside0.mk (groups_end HI.out.ok)
      go_wp2_with fail
      go_ret
      exact ⟨by rw [HEND.out]; simp <;> omega, HI.out.fr⟩
end Go.Proofs.Ytdpchfifaidamaa.U
