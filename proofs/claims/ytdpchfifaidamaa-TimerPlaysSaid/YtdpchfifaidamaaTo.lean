/- Contracts of the reference table's Drop and put. No condition. -/
import Derived.Test.YtdpchfifaidamaaTn
import Derived.StillTailTactics
namespace Go.Proofs.Ytdpchfifaidamaa.T
open Go.RowKit Go.Maps Go.Proofs.YtdpchfifaidamaaW.PrintWords Go.Proofs.Ytdpchfifaidamaa.B
set_option linter.unusedVariables false
set_option linter.unusedSimpArgs false

structure EI (w wr : World) (v : Value) (l : List NT) : Prop where
  own : EOwn E124 wr w.heap.size v l
  fr : Fr no w wr
def keepB (s : ByteArray) (n : NT) : Bool := decide (n.name ≠ s)
/-- a row of the call's own is laid into the table. -/
theorem RT.laid {w wr : World} {g : Nat} {v : Value} {l : List NT} {A0 : Option Addr} {n0 c0 : Nat} (hb : wr.heap[g]? = some (.cells #[.slice A0 n0 c0] 63 (0, 0))) (ho : EOwn E124 wr w.heap.size v l) (hg : g < w.heap.size) :
    RT (wr.setCell ⟨g, 0, none⟩ v) g l := by
  obtain ⟨A, c, rfl, hlc, hcm, hr⟩ := ho.form
  have hb' : (wr.setCell ⟨g, 0, none⟩ (.slice A l.length c)).heap[g]? = some (.cells #[.slice A l.length c] 63 (0, 0)) := blk_set hb 0 _
  have hne : ∀ ad, A = some ad → 0 < l.length → ad.block ≠ g := by
    rintro ad rfl _ e
    have := ho.base_le (k := ad.block) rfl
    omega
  refine ⟨A, c, hb', hlc, hcm, hr.fr (S := fun k => k = g) ((Fr.refl wr (fun k => k = g)).setCell (p := ⟨g, 0, none⟩) (.inl rfl) _) hne, hne⟩

set_option maxRecDepth 100000 in
set_option maxHeartbeats 1000000 in
theorem rdrop_calls (w : World) (g : Nat) (L : List NT) (s : ByteArray) (h : RT w g L) (hL : L.length < 1000000000) :
    Calls Try.prog 41 #[.pointer (some ⟨g, 0, none⟩), .string s] w fun e w' => e = .returned (.tuple #[]) ∧ RT w' g (L.filter (keepB s)) ∧ Fr (fun k => k = g) w w' := by
  obtain ⟨A, c, hb, hlc, hcm, hr, _⟩ := h.blk
  have hc0 : w.cell? ⟨g, 0, none⟩ = some (.slice A L.length c) := (blk_cell hb 0).trans rfl
  have HR := Aside0.mk hr
  have HB := Aside0.mk hb
  have HG := Aside0.mk (blk_lt hb)
  have hu124 := Try.underlying124
  have hlm : L.length ≤ 9223372036854775807 := by omega
  clear h hb hlc hcm hr
  go_enter Try.func41, Try.ntmps41
  go_wp2
  go_loopw [4, 5] (fun v i wr => ∃ k : Nat, k ≤ L.length ∧ i = .int .i64 k ∧ Aside0 (EI w wr v ((L.take k).filter (keepB s)))) (fun _ i _ => L.length - (intOf i).toNat)
  case atStart => exact ⟨0, Nat.zero_le _, rfl, ⟨⟨EOwn.nil _ _, Fr.refl _ _⟩⟩⟩
  case round =>
    obtain ⟨k, hk, rfl, HI⟩ := hrel
    have hcg : wr.cell? ⟨g, 0, none⟩ = some (.slice A L.length c) := cell_fr hc0 HI.out.fr (fun h => h)
    by_cases hlt : k < L.length
    · obtain ⟨ad, e, hn, hs⟩ := note_cells HR.out k hlt
      cases e
      have htk : L.take (k + 1) = L.take k ++ [L[k]] := List.take_succ_eq_append_getElem hlt
      have hn' : wr.cell? (ad.add (k * 2)) = some (.string L[k].name) := cell_fr hn HI.out.fr (fun h => h)
      have hs' : wr.cell? ⟨(ad.add (k * 2)).block, (ad.add (k * 2)).off + 1, none⟩ = some (.int .i64 L[k].since) := cell_fr hs HI.out.fr (fun h => h)
      obtain ⟨acc, hacc⟩ : ∃ acc, acc = (L.take k).filter (keepB s) := ⟨_, rfl⟩
      have hfl : acc.length < 1000000000 := by
        have := List.length_filter_le (keepB s) (L.take k)
        rw [hacc]
        simp at this ⊢
        omega
      have hown : EOwn E124 wr w.heap.size u4 acc := by rw [hacc]; exact HI.out.own
      have HFL := Aside0.mk hfl
      have HOW := Aside0.mk hown
      have HAC := Aside0.mk hacc
      obtain ⟨x, hx⟩ : ∃ x, x = L[k] := ⟨_, rfl⟩
      rw [← hx] at hn' hs' htk
      have HTK := Aside0.mk htk
      clear htk hs hn hfl hx hown hacc
      by_cases he : x.name = s
      · have hb1 : (x.name.toList == s.toList) = true := by simp [he]
        have hb2 : (x.name.toList != s.toList) = false := by simp [he]
        have hp : keepB s x = false := by simp [keepB, he]
        have HP := Aside0.mk hp
        clear he hp
        go_wp2
        go_roundw
        case rel => exact ⟨k + 1, by omega, by go_num, ⟨⟨by rw [HTK.out, List.filter_append, List.filter_cons, HP.out]; simp; exact HI.out.own, HI.out.fr⟩⟩⟩
        case measure => simp [intOf]; omega
      · have hb1 : (x.name.toList == s.toList) = false := by simpa using toList_ne he
        have hb2 : (x.name.toList != s.toList) = true := by simpa using toList_ne he
        have hp : keepB s x = true := by simp [keepB, he]
        have HP := Aside0.mk hp
        clear he hp
        go_wp2_with (first
          | (at_builtin; refine wpL_append_el E124 w.heap.size rfl _ _ rfl _ _ x wr.heap.size rfl rfl (heap_alloc_new wr _) (HOW.out.alloc _) ?_ ?_ ?_; (exact Nat.le_trans HI.out.fr.size (by simp)); (have h9 := HFL.out; show (acc.length + 1) * 24 ≤ _; omega); intro g2 c2 w3 ho3 hf3 hb3 hl3 hc3; have HO3 := Aside0.mk ho3; have HF3 := Aside0.mk (show Fr (fun k => u4.ownBlock = some k) (wr.alloc _) w3 from hf3); clear ho3 hf3 hb3 hl3))
        go_roundw
        case rel =>
          refine ⟨k + 1, by omega, by go_num, ⟨⟨?_, ?_⟩⟩⟩
          · have := HO3.out
            rw [HTK.out, List.filter_append, List.filter_cons, HP.out, ← HAC.out]
            exact this
          · exact (HI.out.fr.alloc _).then_ HF3.out (fun k hk => .inr (HI.out.own.base_le hk))
        case measure => simp [intOf]; omega
    · obtain rfl : k = L.length := by omega
      have hbr := blk_fr HB.out HI.out.fr (fun h => h)
      have HBR := Aside0.mk hbr
      have hfz : wr.frozen? ⟨g, 0, none⟩ = false := blk_frozen hbr 0
      have ho := HI.out.own
      rw [List.take_length] at ho
      obtain ⟨A', c', hv, _, _, _⟩ := ho.form
      subst hv
      have HO := Aside0.mk ho
      clear hbr ho
      go_wp2
      go_end0
      have ho := HO.out
      exact ⟨rfl, RT.laid HBR.out ho HG.out, (HI.out.fr.mono (S' := fun k => k = g) (fun _ h => h.elim)).setCell (p := ⟨g, 0, none⟩) (.inl rfl) _⟩

theorem less_is (w : World) (a b : ByteArray) (v : Bool) (ha : a.size ≤ maxLen) (hb : b.size ≤ maxLen) (hv : Op.bytesLess a.toList b.toList = v) :
    Calls Try.prog 114 #[.string a, .string b] w fun e w' => e = .returned (.bool v) ∧ ∃ m, w' = w.drewN m := by rw [← hv]; exact less_calls w a b ha hb
def nltB (a n : NT) : Bool := decide (a.since < n.since) || (decide (a.since = n.since) && Op.bytesLess a.name.toList n.name.toList)
def PutPost (w : World) (g : Nat) (L : List NT) (n : NT) (e : Ending) (w' : World) : Prop :=
  ∃ i, i ≤ L.length ∧ (∀ a ∈ L.take i, nltB a n = true) ∧ (∀ h : i < L.length, nltB L[i] n = false) ∧ e = .returned (.tuple #[]) ∧ RT w' g (L.take i ++ n :: L.drop i) ∧ Fr (fun k => k = g) w w'
set_option maxRecDepth 100000 in
set_option maxHeartbeats 4000000 in
theorem rput_calls (w : World) (g : Nat) (L : List NT) (n : NT) (h : RT w g L) (hL : L.length < 1000000000) (hs : ∀ a ∈ L, a.name.size ≤ maxLen) (hn : n.name.size ≤ maxLen) :
    Calls Try.prog 88 #[.pointer (some ⟨g, 0, none⟩), .agg #[.string n.name, .int .i64 n.since]] w (PutPost w g L n) := by
  obtain ⟨A, c, hb, hlc, hcm, hr, _⟩ := h.blk
  have hc0 : w.cell? ⟨g, 0, none⟩ = some (.slice A L.length c) := (blk_cell hb 0).trans rfl
  have HR := Aside0.mk hr
  have HB := Aside0.mk hb
  have HG := Aside0.mk (blk_lt hb)
  have HS := Aside0.mk hs
  have HN := Aside0.mk hn
  have hu124 := Try.underlying124
  have hlm : L.length ≤ 9223372036854775807 := by omega
  have HLC := Aside0.mk hlc
  have HCM := Aside0.mk hcm
  clear h hb hlc hcm hr hs hn
  obtain ⟨bx, hbx⟩ : ∃ bx, bx = w.heap.size := ⟨_, rfl⟩
  have hbox := heap_alloc_new w (.cells #[.string n.name, .int .i64 n.since] 124)
  rw [← hbx] at hbox
  have HBX := Aside0.mk hbx
  have HBOX := Aside0.mk hbox
  clear hbox
  go_enter Try.func88, Try.ntmps88
  go_wp2
  rw [← hbx]
  clear hbx
  go_loopw [4, 5] (fun v i wr => ∃ k : Nat, k ≤ L.length ∧ i = .int .i64 k ∧ Aside0 (∀ a ∈ L.take k, nltB a n = true) ∧ Aside0 (EI w wr v (L.take k)) ∧ Aside0 (wr.heap[bx]? = some (.cells #[.string n.name, .int .i64 n.since] 124 (0, 0))) ∧ Aside0 (∀ q, v.ownBlock = some q → q ≠ bx)) (fun _ i _ => L.length - (intOf i).toNat)
  case atStart => exact ⟨0, Nat.zero_le _, rfl, ⟨by simp⟩, ⟨⟨EOwn.nil _ _, (Fr.refl w no).alloc _⟩⟩, HBOX, ⟨fun q h => by simp [Value.ownBlock] at h⟩⟩
  case round =>
    obtain ⟨k, hk, rfl, HT, HI, HX, HQ⟩ := hrel
    have hcg : wr.cell? ⟨g, 0, none⟩ = some (.slice A L.length c) := cell_fr hc0 HI.out.fr (fun h => h)
    have hx0 : wr.cell? ⟨bx, 0, none⟩ = some (.string n.name) := (blk_cell HX.out 0).trans rfl
    have hx1 : wr.cell? ⟨bx, 1, none⟩ = some (.int .i64 n.since) := (blk_cell HX.out 1).trans rfl
    by_cases hgo : ∃ hlt : k < L.length, nltB L[k] n = true
    · obtain ⟨hlt, hnl⟩ := hgo
      obtain ⟨ad, e, hn, hs⟩ := note_cells HR.out k hlt
      cases e
      have htk : L.take (k + 1) = L.take k ++ [L[k]] := List.take_succ_eq_append_getElem hlt
      have hn' : wr.cell? (ad.add (k * 2)) = some (.string L[k].name) := cell_fr hn HI.out.fr (fun h => h)
      have hs' : wr.cell? ⟨(ad.add (k * 2)).block, (ad.add (k * 2)).off + 1, none⟩ = some (.int .i64 L[k].since) := cell_fr hs HI.out.fr (fun h => h)
      obtain ⟨x, hx⟩ : ∃ x, x = L[k] := ⟨_, rfl⟩
      have hxs : x.name.size ≤ maxLen := HS.out x (by rw [hx]; exact List.getElem_mem hlt)
      rw [← hx] at hn' hs' htk hnl
      have HTK := Aside0.mk htk
      have HXS := Aside0.mk hxs
      have HNL := Aside0.mk hnl
      have htl : (L.take k).length = k := by simp; omega
      have HTL := Aside0.mk htl
      have HFL := Aside0.mk (show ((L.take k).length + 1) * 24 ≤ 140737488355328 by rw [htl]; omega)
      have hk0 : (0 : Int) ≤ k := by omega
      have hk1 : (k : Int) < L.length := by omega
      have hdk : decide ((k : Int) < L.length) = true := decide_eq_true hk1
      have hdk2 : decide (k < L.length) = true := decide_eq_true hlt
      clear htk hs hn hx hxs hnl htl
      by_cases h1 : x.since < n.since
      · have hd1 : decide (x.since < n.since) = true := decide_eq_true h1
        go_wp2
        go_quiet (fail)
        go_wp2_with (first
          | (at_builtin; refine wpL_append_el E124 w.heap.size rfl _ _ rfl _ _ x wr.heap.size rfl rfl (heap_alloc_new (wr.drewN _) _) ((HI.out.own.drewN _).alloc _) ?_ ?_ ?_; (exact Nat.le_trans HI.out.fr.size (by simp)); (exact HFL.out); intro g2 c2 w3 ho3 hf3 hb3 hl3 hc3; have HO3 := Aside0.mk ho3; have HF3 := Aside0.mk (show Fr (fun k => u4.ownBlock = some k) wr w3 from (((Fr.refl wr _).drewN _).alloc _).then_ hf3 (fun k hk => .inl hk)); have HL3 := Aside0.mk (show u4.ownBlock = some g2 ∨ g2 = wr.heap.size + 1 from hl3.imp id (fun h => h.trans (by simp))); clear ho3 hf3 hb3 hl3))
        go_roundw
        case rel =>
          refine ⟨k + 1, by omega, by go_num, ⟨?_⟩, ⟨⟨?_, ?_⟩⟩, ⟨?_⟩, ⟨?_⟩⟩
          · rw [HTK.out]
            intro a ha
            rcases List.mem_append.1 ha with h | h
            · exact HT.out a h
            · simp at h; rw [h]; exact HNL.out
          · have := HO3.out
            rw [HTK.out]
            rwa [HTL.out] at this
          · exact HI.out.fr.then_ HF3.out (fun k hk => .inr (HI.out.own.base_le hk))
          · exact blk_fr HX.out HF3.out (fun e => HQ.out bx e rfl)
          · intro q hq e
            have hq' : g2 = q := by simpa [Value.ownBlock] using hq
            rcases HL3.out with h | h
            · exact HQ.out g2 h (hq'.trans e)
            · have := blk_lt HX.out; omega
        case measure => simp [intOf]; omega
      · have hd1 : decide (x.since < n.since) = false := decide_eq_false h1
        have h2 : x.since = n.since ∧ Op.bytesLess x.name.toList n.name.toList = true := by
          have := HNL.out
          unfold nltB at this
          rw [hd1] at this
          simpa using this
        obtain ⟨h2, h3⟩ := h2
        have hd2 : (x.since == n.since) = true := by simp [h2]
        have H3 := Aside0.mk h3
        clear h2 h3
        go_wp2
        go_quiet ((go_at_call 114; exact Calls.quiet_of (less_is _ _ _ true HXS.out HN.out H3.out)))
        go_wp2_with (first
          | (at_builtin; refine wpL_append_el E124 w.heap.size rfl _ _ rfl _ _ x wr.heap.size rfl rfl (heap_alloc_new (wr.drewN _) _) ((HI.out.own.drewN _).alloc _) ?_ ?_ ?_; (exact Nat.le_trans HI.out.fr.size (by simp)); (exact HFL.out); intro g2 c2 w3 ho3 hf3 hb3 hl3 hc3; have HO3 := Aside0.mk ho3; have HF3 := Aside0.mk (show Fr (fun k => u4.ownBlock = some k) wr w3 from (((Fr.refl wr _).drewN _).alloc _).then_ hf3 (fun k hk => .inl hk)); have HL3 := Aside0.mk (show u4.ownBlock = some g2 ∨ g2 = wr.heap.size + 1 from hl3.imp id (fun h => h.trans (by simp))); clear ho3 hf3 hb3 hl3))
        go_roundw
        case rel =>
          refine ⟨k + 1, by omega, by go_num, ⟨?_⟩, ⟨⟨?_, ?_⟩⟩, ⟨?_⟩, ⟨?_⟩⟩
          · rw [HTK.out]
            intro a ha
            rcases List.mem_append.1 ha with h | h
            · exact HT.out a h
            · simp at h; rw [h]; exact HNL.out
          · have := HO3.out
            rw [HTK.out]
            rwa [HTL.out] at this
          · exact HI.out.fr.then_ HF3.out (fun k hk => .inr (HI.out.own.base_le hk))
          · exact blk_fr HX.out HF3.out (fun e => HQ.out bx e rfl)
          · intro q hq e
            have hq' : g2 = q := by simpa [Value.ownBlock] using hq
            rcases HL3.out with h | h
            · exact HQ.out g2 h (hq'.trans e)
            · have := blk_lt HX.out; omega
        case measure => simp [intOf]; omega
    · obtain ⟨acc, hacc⟩ : ∃ acc, acc = L.take k := ⟨_, rfl⟩
      have hown : EOwn E124 wr w.heap.size u4 acc := by rw [hacc]; exact HI.out.own
      have htl : acc.length = k := by rw [hacc]; simp; omega
      have HAC := Aside0.mk hacc
      have HOW := Aside0.mk hown
      have HTL := Aside0.mk htl
      have HFL := Aside0.mk (show (acc.length + 1) * 24 ≤ 140737488355328 by rw [htl]; omega)
      have HFD := Aside0.mk (show ((acc ++ [n]).length + (L.drop k).length) * 24 ≤ 140737488355328 by simp [htl]; omega)
      have hng : ¬ (u4.ownBlock = some g) := fun e => by have h1 := hown.base_le e; have h2 := HG.out; omega
      have HNG := Aside0.mk hng
      obtain ⟨A', hcut, hA'⟩ := cut_el E124 A L.length c k (k : Int) rfl hk
      have hrd : ∀ W, Fr no w W → ER E124 W A' (L.drop k) := fun W hW => by rw [hA']; exact ER.drop (HR.out.no hW) k c hk HLC.out
      have HRD := Aside0.mk hrd
      have hcut' : ∀ W : World, (Instr.slice 61 (.slice A L.length c) (some (.int .i64 (k : Int))) none none).run Try.prog W = .ok (.slice A' (L.length - k) (c - k)) W := hcut
      have HDL := Aside0.mk (show Value.slice A' (L.length - k) (c - k) = .slice A' (L.drop k).length (c - k) by simp)
      clear hacc hown htl hng hA' hrd hcut
      by_cases hlt : k < L.length
      · have hnl : nltB L[k] n = false := by
          cases h : nltB L[k] n
          · rfl
          · exact absurd ⟨hlt, h⟩ hgo
        obtain ⟨ad, e, hn, hs⟩ := note_cells HR.out k hlt
        cases e
        have hn' : wr.cell? (ad.add (k * 2)) = some (.string L[k].name) := cell_fr hn HI.out.fr (fun h => h)
        have hs' : wr.cell? ⟨(ad.add (k * 2)).block, (ad.add (k * 2)).off + 1, none⟩ = some (.int .i64 L[k].since) := cell_fr hs HI.out.fr (fun h => h)
        obtain ⟨x, hx⟩ : ∃ x, x = L[k] := ⟨_, rfl⟩
        have hxs : x.name.size ≤ maxLen := HS.out x (by rw [hx]; exact List.getElem_mem hlt)
        have HNL := Aside0.mk hnl
        rw [← hx] at hn' hs' hnl
        have HXS := Aside0.mk hxs
        have hk0 : (0 : Int) ≤ k := by omega
        have hk1 : (k : Int) < L.length := by omega
        have hdk : decide ((k : Int) < L.length) = true := decide_eq_true hk1
        have hdk2 : decide (k < L.length) = true := decide_eq_true hlt
        have hd1 : decide (x.since < n.since) = false := by unfold nltB at hnl; simp at hnl; simpa using hnl.1
        clear hs hn hx hxs hgo
        by_cases h2 : x.since = n.since
        · have h3 : Op.bytesLess x.name.toList n.name.toList = false := by
            unfold nltB at hnl
            rw [hd1] at hnl
            simpa [h2] using hnl
          have hd2 : (x.since == n.since) = true := by simp [h2]
          have H3 := Aside0.mk h3
          clear h2 h3 hnl
          go_wp2
          go_quiet ((go_at_call 114; exact Calls.quiet_of (less_is _ _ _ false HXS.out HN.out H3.out)))
          go_wp2_with (first
            | (at_builtin; refine wpL_append_el E124 w.heap.size rfl _ _ rfl _ _ n wr.heap.size rfl rfl (heap_alloc_new (wr.drewN _) _) ((HOW.out.drewN _).alloc _) ?_ HFL.out ?_; (exact Nat.le_trans HI.out.fr.size (by simp)); intro g2 c2 w3 ho3 hf3 hb3 hl3 hc3; have HO3 := Aside0.mk ho3; have HF3 := Aside0.mk (show Fr (fun k => u4.ownBlock = some k) wr w3 from (((Fr.refl wr _).drewN _).alloc _).then_ hf3 (fun k hk => .inl hk)); have hcg3 := cell_fr hcg HF3.out HNG.out; have HBG := Aside0.mk hb3; clear ho3 hf3 hb3 hl3)
            | (at_builtin; refine wpL_append_els E124 w.heap.size rfl _ _ rfl _ _ (L.drop k) A' (c - k) rfl HDL.out (HRD.out w3 ((HI.out.fr.then_ HF3.out (fun k hk => .inr (HI.out.own.base_le hk))))) HO3.out ?_ HFD.out ?_; (exact Nat.le_trans HI.out.fr.size HF3.out.size); intro v4 w4 ho4 hf4 hl4; obtain ⟨A4, c4, hv4, hq1, hq2, hq3⟩ := ho4.form; subst hv4; have HO4 := Aside0.mk ho4; have HF4 := Aside0.mk (show Fr (fun k => k = g2) w3 w4 from Fr.mono (S := fun k => (Value.slice (some ⟨g2, 0, none⟩) (acc.length + 1) c2).ownBlock = some k) hf4 (fun k hk => (Option.some.inj (show some g2 = some k from hk)).symm)); have hb4 := blk_fr (blk_fr (blk_fr HB.out HI.out.fr (fun h => h)) HF3.out HNG.out) HF4.out (fun e => by have h1 := HBG.out; have h2 := HG.out; omega); have HB4 := Aside0.mk hb4; have hcg4 : w4.cell? ⟨g, 0, none⟩ = some (.slice _ L.length c) := (blk_cell hb4 0).trans rfl; have hfz4 : w4.frozen? ⟨g, 0, none⟩ = false := blk_frozen hb4 0; clear ho4 hf4 hl4 hb4 hq1 hq2 hq3))
          go_end0
          have hdt : acc ++ [n] ++ L.drop k = L.take k ++ n :: L.drop k := by rw [HAC.out]; simp
          have ho4 := HO4.out
          have hR := RT.laid HB4.out ho4 HG.out
          have hlen : (L.take k ++ n :: L.drop k).length = acc.length + (L.length - k + 1) := by rw [HAC.out]; simp
          rw [hdt, hlen] at hR
          have hF : Fr (fun k => k = g) w w4 := ((((HI.out.fr.then_ HF3.out (fun k hk => .inr (HI.out.own.base_le hk))).then_ HF4.out (fun k hk => .inr (by rw [hk]; exact HBG.out))).mono (fun _ h => h.elim)))
          refine ⟨k, hk, HT.out, fun _ => HNL.out, rfl, hR, hF.setCell (p := ⟨g, 0, none⟩) (.inl rfl) _⟩
        · have hd2 : (x.since == n.since) = false := by simp [h2]
          clear h2 hnl
          go_wp2
          go_quiet (fail)
          go_wp2_with (first
            | (at_builtin; refine wpL_append_el E124 w.heap.size rfl _ _ rfl _ _ n wr.heap.size rfl rfl (heap_alloc_new (wr.drewN _) _) ((HOW.out.drewN _).alloc _) ?_ HFL.out ?_; (exact Nat.le_trans HI.out.fr.size (by simp)); intro g2 c2 w3 ho3 hf3 hb3 hl3 hc3; have HO3 := Aside0.mk ho3; have HF3 := Aside0.mk (show Fr (fun k => u4.ownBlock = some k) wr w3 from (((Fr.refl wr _).drewN _).alloc _).then_ hf3 (fun k hk => .inl hk)); have hcg3 := cell_fr hcg HF3.out HNG.out; have HBG := Aside0.mk hb3; clear ho3 hf3 hb3 hl3)
            | (at_builtin; refine wpL_append_els E124 w.heap.size rfl _ _ rfl _ _ (L.drop k) A' (c - k) rfl HDL.out (HRD.out w3 ((HI.out.fr.then_ HF3.out (fun k hk => .inr (HI.out.own.base_le hk))))) HO3.out ?_ HFD.out ?_; (exact Nat.le_trans HI.out.fr.size HF3.out.size); intro v4 w4 ho4 hf4 hl4; obtain ⟨A4, c4, hv4, hq1, hq2, hq3⟩ := ho4.form; subst hv4; have HO4 := Aside0.mk ho4; have HF4 := Aside0.mk (show Fr (fun k => k = g2) w3 w4 from Fr.mono (S := fun k => (Value.slice (some ⟨g2, 0, none⟩) (acc.length + 1) c2).ownBlock = some k) hf4 (fun k hk => (Option.some.inj (show some g2 = some k from hk)).symm)); have hb4 := blk_fr (blk_fr (blk_fr HB.out HI.out.fr (fun h => h)) HF3.out HNG.out) HF4.out (fun e => by have h1 := HBG.out; have h2 := HG.out; omega); have HB4 := Aside0.mk hb4; have hcg4 : w4.cell? ⟨g, 0, none⟩ = some (.slice _ L.length c) := (blk_cell hb4 0).trans rfl; have hfz4 : w4.frozen? ⟨g, 0, none⟩ = false := blk_frozen hb4 0; clear ho4 hf4 hl4 hb4 hq1 hq2 hq3))
          go_end0
          have hdt : acc ++ [n] ++ L.drop k = L.take k ++ n :: L.drop k := by rw [HAC.out]; simp
          have ho4 := HO4.out
          have hR := RT.laid HB4.out ho4 HG.out
          have hlen : (L.take k ++ n :: L.drop k).length = acc.length + (L.length - k + 1) := by rw [HAC.out]; simp
          rw [hdt, hlen] at hR
          have hF : Fr (fun k => k = g) w w4 := ((((HI.out.fr.then_ HF3.out (fun k hk => .inr (HI.out.own.base_le hk))).then_ HF4.out (fun k hk => .inr (by rw [hk]; exact HBG.out))).mono (fun _ h => h.elim)))
          refine ⟨k, hk, HT.out, fun _ => HNL.out, rfl, hR, hF.setCell (p := ⟨g, 0, none⟩) (.inl rfl) _⟩
      · have hdk : decide ((k : Int) < L.length) = false := decide_eq_false (by omega)
        have hdk2 : decide (k < L.length) = false := decide_eq_false hlt
        clear hgo
        go_wp2
        go_quiet (fail)
        go_wp2_with (first
          | (at_builtin; refine wpL_append_el E124 w.heap.size rfl _ _ rfl _ _ n wr.heap.size rfl rfl (heap_alloc_new (wr.drewN _) _) ((HOW.out.drewN _).alloc _) ?_ HFL.out ?_; (exact Nat.le_trans HI.out.fr.size (by simp)); intro g2 c2 w3 ho3 hf3 hb3 hl3 hc3; have HO3 := Aside0.mk ho3; have HF3 := Aside0.mk (show Fr (fun k => u4.ownBlock = some k) wr w3 from (((Fr.refl wr _).drewN _).alloc _).then_ hf3 (fun k hk => .inl hk)); have hcg3 := cell_fr hcg HF3.out HNG.out; have HBG := Aside0.mk hb3; clear ho3 hf3 hb3 hl3)
          | (at_builtin; refine wpL_append_els E124 w.heap.size rfl _ _ rfl _ _ (L.drop k) A' (c - k) rfl HDL.out (HRD.out w3 ((HI.out.fr.then_ HF3.out (fun k hk => .inr (HI.out.own.base_le hk))))) HO3.out ?_ HFD.out ?_; (exact Nat.le_trans HI.out.fr.size HF3.out.size); intro v4 w4 ho4 hf4 hl4; obtain ⟨A4, c4, hv4, hq1, hq2, hq3⟩ := ho4.form; subst hv4; have HO4 := Aside0.mk ho4; have HF4 := Aside0.mk (show Fr (fun k => k = g2) w3 w4 from Fr.mono (S := fun k => (Value.slice (some ⟨g2, 0, none⟩) (acc.length + 1) c2).ownBlock = some k) hf4 (fun k hk => (Option.some.inj (show some g2 = some k from hk)).symm)); have hb4 := blk_fr (blk_fr (blk_fr HB.out HI.out.fr (fun h => h)) HF3.out HNG.out) HF4.out (fun e => by have h1 := HBG.out; have h2 := HG.out; omega); have HB4 := Aside0.mk hb4; have hcg4 : w4.cell? ⟨g, 0, none⟩ = some (.slice _ L.length c) := (blk_cell hb4 0).trans rfl; have hfz4 : w4.frozen? ⟨g, 0, none⟩ = false := blk_frozen hb4 0; clear ho4 hf4 hl4 hb4 hq1 hq2 hq3))
        go_end0
        have hdt : acc ++ [n] ++ L.drop k = L.take k ++ n :: L.drop k := by rw [HAC.out]; simp
        have ho4 := HO4.out
        have hR := RT.laid HB4.out ho4 HG.out
        have hlen : (L.take k ++ n :: L.drop k).length = acc.length + (L.length - k + 1) := by rw [HAC.out]; simp
        rw [hdt, hlen] at hR
        have hF : Fr (fun k => k = g) w w4 := ((((HI.out.fr.then_ HF3.out (fun k hk => .inr (HI.out.own.base_le hk))).then_ HF4.out (fun k hk => .inr (by rw [hk]; exact HBG.out))).mono (fun _ h => h.elim)))
        refine ⟨k, hk, HT.out, fun h => absurd h hlt, rfl, hR, hF.setCell (p := ⟨g, 0, none⟩) (.inl rfl) _⟩

end Go.Proofs.Ytdpchfifaidamaa.T
