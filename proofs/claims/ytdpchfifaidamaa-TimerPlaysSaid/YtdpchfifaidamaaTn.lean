/- Contracts of the reference table's Names, Ripe, Drop. No condition. -/
import Derived.Test.YtdpchfifaidamaaTm
namespace Go.Proofs.Ytdpchfifaidamaa.T
open Go.RowKit Go.Maps Go.Proofs.YtdpchfifaidamaaW.PrintWords Go.Proofs.Ytdpchfifaidamaa.B
set_option linter.unusedVariables false
set_option linter.unusedSimpArgs false

structure LI (w wr : World) (v : Value) (l : List ByteArray) : Prop where
  own : SOwn wr w.heap.size v l
  fr : Fr no w wr
def RNamesPost (w : World) (l : List ByteArray) (e : Ending) (w' : World) : Prop := ∃ v, e = .returned v ∧ SOwn w' w.heap.size v l ∧ Fr no w w'
set_option maxRecDepth 100000 in
set_option maxHeartbeats 1000000 in
theorem rnames_calls (w : World) (g : Nat) (L : List NT) (h : RT w g L) (hL : L.length < 1000000000) : Calls Try.prog 44 #[.pointer (some ⟨g, 0, none⟩)] w (RNamesPost w (L.map NT.name)) := by
  obtain ⟨A, c, hb, hlc, hcm, hr, _⟩ := h.blk
  have hc0 : w.cell? ⟨g, 0, none⟩ = some (.slice A L.length c) := (blk_cell hb 0).trans rfl
  have HR := Aside0.mk hr
  have hlm : L.length ≤ 9223372036854775807 := by omega
  clear h hb hlc hcm hr
  go_enter Try.func44, Try.ntmps44
  go_wp2
  go_loopw [3, 4] (fun v i wr => ∃ k : Nat, k ≤ L.length ∧ i = .int .i64 k ∧ Aside0 (LI w wr v ((L.take k).map NT.name))) (fun _ i _ => L.length - (intOf i).toNat)
  case atStart => exact ⟨0, Nat.zero_le _, rfl, ⟨⟨SOwn.nil _ _, Fr.refl _ _⟩⟩⟩
  case round =>
    obtain ⟨k, hk, rfl, HI⟩ := hrel
    have hcg : wr.cell? ⟨g, 0, none⟩ = some (.slice A L.length c) := cell_fr hc0 HI.out.fr (fun h => h)
    by_cases hlt : k < L.length
    · obtain ⟨ad, e, hn, hs⟩ := note_cells HR.out k hlt
      cases e
      have htk : L.take (k + 1) = L.take k ++ [L[k]] := List.take_succ_eq_append_getElem hlt
      have hn' : wr.cell? (ad.add (k * 2)) = some (.string L[k].name) := cell_fr hn HI.out.fr (fun h => h)
      have HTK := Aside0.mk htk
      obtain ⟨acc, hacc⟩ : ∃ acc, acc = (L.take k).map NT.name := ⟨_, rfl⟩
      have hfl : acc.length < 1000000000000 := by rw [hacc]; simp; omega
      have hown : SOwn wr w.heap.size u3 acc := by rw [hacc]; exact HI.out.own
      have HFL := Aside0.mk hfl
      have HOW := Aside0.mk hown
      have HAC := Aside0.mk hacc
      obtain ⟨x, hx⟩ : ∃ x, x = L[k].name := ⟨_, rfl⟩
      have HX := Aside0.mk hx
      rw [← hx] at hn'
      clear htk hs hn hfl hx hown hacc
      go_wp2_with (first
        | (at_builtin; refine wpL_append_str w.heap.size rfl _ _ rfl _ _ x wr.heap.size rfl rfl (heap_alloc_new wr _) (HOW.out.alloc _) ?_ HFL.out ?_; (exact Nat.le_trans HI.out.fr.size (by simp)); intro g2 c2 w3 ho3 hf3 hb3 hl3 hc3; have HO3 := Aside0.mk ho3; have HF3 := Aside0.mk (show Fr (fun k => u3.ownBlock = some k) (wr.alloc _) w3 from hf3); clear ho3 hf3 hb3 hl3))
      go_roundw
      case rel =>
        refine ⟨k + 1, by omega, by go_num, ⟨⟨?_, ?_⟩⟩⟩
        · have := HO3.out
          rw [HTK.out, List.map_append, List.map_cons, List.map_nil, ← HX.out, ← HAC.out]
          exact this
        · exact (HI.out.fr.alloc _).then_ HF3.out (fun k hk => .inr (HI.out.own.base_le hk))
      case measure => simp [intOf]; omega
    · obtain rfl : k = L.length := by omega
      go_wp2
      go_ret
      have ho := HI.out.own
      rw [List.take_length] at ho
      exact ⟨_, rfl, ho, HI.out.fr⟩

def rRipe (L : List NT) (now len : Int) : List ByteArray := if timeB now && decide (0 ≤ len) then (L.filter (fun n => decide (len ≤ now - n.since))).map NT.name else []
set_option maxRecDepth 100000 in
set_option maxHeartbeats 2000000 in
theorem rripe_calls (w : World) (g : Nat) (L : List NT) (now len : Int) (h : RT w g L) (hL : L.length < 1000000000) (ht : ∀ n ∈ L, 0 ≤ n.since ∧ n.since ≤ 1099511627776) :
    Calls Try.prog 45 #[.pointer (some ⟨g, 0, none⟩), .int .i64 now, .int .i64 len] w (RNamesPost w (rRipe L now len)) := by
  obtain ⟨A, c, hb, hlc, hcm, hr, _⟩ := h.blk
  have hc0 : w.cell? ⟨g, 0, none⟩ = some (.slice A L.length c) := (blk_cell hb 0).trans rfl
  have HR := Aside0.mk hr
  have HT := Aside0.mk ht
  have hlm : L.length ≤ 9223372036854775807 := by omega
  clear h hb hlc hcm hr ht
  by_cases hgo : timeB now = true ∧ 0 ≤ len
  · obtain ⟨htb, hl0⟩ := hgo
    have htn : 0 ≤ now ∧ now ≤ 1099511627776 := by simpa [timeB] using htb
    obtain ⟨hn0, hn1⟩ := htn
    have HF := Aside0.mk (show rRipe L now len = (L.filter (fun n => decide (len ≤ now - n.since))).map NT.name by unfold rRipe; rw [htb]; simp [hl0])
    have hdl : decide (0 ≤ len) = true := decide_eq_true hl0
    go_enter Try.func45, Try.ntmps45
    go_wp2
    go_loopw [7, 8] (fun v i wr => ∃ k : Nat, k ≤ L.length ∧ i = .int .i64 k ∧ Aside0 (LI w wr v (((L.take k).filter (fun n => decide (len ≤ now - n.since))).map NT.name))) (fun _ i _ => L.length - (intOf i).toNat)
    case atStart => exact ⟨0, Nat.zero_le _, rfl, ⟨⟨SOwn.nil _ _, Fr.refl _ _⟩⟩⟩
    case round =>
      obtain ⟨k, hk, rfl, HI⟩ := hrel
      have hcg : wr.cell? ⟨g, 0, none⟩ = some (.slice A L.length c) := cell_fr hc0 HI.out.fr (fun h => h)
      by_cases hlt : k < L.length
      · obtain ⟨ad, e, hn, hs⟩ := note_cells HR.out k hlt
        cases e
        have htk : L.take (k + 1) = L.take k ++ [L[k]] := List.take_succ_eq_append_getElem hlt
        have hn' : wr.cell? (ad.add (k * 2)) = some (.string L[k].name) := cell_fr hn HI.out.fr (fun h => h)
        have hs' : wr.cell? ⟨(ad.add (k * 2)).block, (ad.add (k * 2)).off + 1, none⟩ = some (.int .i64 L[k].since) := cell_fr hs HI.out.fr (fun h => h)
        obtain ⟨acc, hacc⟩ : ∃ acc, acc = ((L.take k).filter (fun n => decide (len ≤ now - n.since))).map NT.name := ⟨_, rfl⟩
        have hfl : acc.length < 1000000000000 := by
          have := List.length_filter_le (fun n : NT => decide (len ≤ now - n.since)) (L.take k)
          rw [hacc]
          simp at this ⊢
          omega
        have hown : SOwn wr w.heap.size u7 acc := by rw [hacc]; exact HI.out.own
        have HFL := Aside0.mk hfl
        have HOW := Aside0.mk hown
        have HAC := Aside0.mk hacc
        obtain ⟨x, hx⟩ : ∃ x, x = L[k] := ⟨_, rfl⟩
        have hxt := HT.out x (by rw [hx]; exact List.getElem_mem hlt)
        obtain ⟨hx0, hx1⟩ := hxt
        rw [← hx] at hn' hs' htk
        have HTK := Aside0.mk htk
        clear htk hs hn hfl hx hown hacc
        have hk0 : (0 : Int) ≤ k := by omega
        go_wp2_with (first
          | (go_at_call 85; refine (rtime_calls _ _).mono ?_; rintro e w' ⟨rfl, rfl⟩)
          | (at_builtin; refine wpL_append_str w.heap.size rfl _ _ rfl _ _ x.name wr.heap.size rfl rfl (heap_alloc_new wr _) (HOW.out.alloc _) ?_ HFL.out ?_; (exact Nat.le_trans HI.out.fr.size (by simp)); intro g2 c2 w3 ho3 hf3 hb3 hl3 hc3; have HO3 := Aside0.mk ho3; have HF3 := Aside0.mk (show Fr (fun k => u7.ownBlock = some k) (wr.alloc _) w3 from hf3); clear ho3 hf3 hb3 hl3))
        · go_roundw
          case rel =>
            have hp : decide (len ≤ now - x.since) = true := by simpa using (by assumption : len ≤ now - x.since)
            refine ⟨k + 1, by omega, by go_num, ⟨⟨?_, ?_⟩⟩⟩
            · rw [HTK.out, List.filter_append, List.map_append, List.filter_cons, hp, ← HAC.out]
              exact HO3.out
            · exact (HI.out.fr.alloc _).then_ HF3.out (fun k hk => .inr (HI.out.own.base_le hk))
          case measure => simp [intOf]; omega
        · go_roundw
          case rel =>
            have hp : decide (len ≤ now - x.since) = false := by simpa using (by assumption : now - x.since < len)
            refine ⟨k + 1, by omega, by go_num, ⟨⟨?_, HI.out.fr⟩⟩⟩
            rw [HTK.out, List.filter_append, List.map_append, List.filter_cons, hp]
            simp
            exact HI.out.own
          case measure => simp [intOf]; omega
      · obtain rfl : k = L.length := by omega
        go_wp2
        go_ret
        have ho := HI.out.own
        rw [List.take_length] at ho
        rw [HF.out]
        exact ⟨_, rfl, ho, HI.out.fr⟩
  · have HF := Aside0.mk (show rRipe L now len = [] by
      unfold rRipe
      rw [if_neg]
      intro h
      simp at h
      exact hgo h)
    by_cases h0 : L.length = 0
    · have hle : ¬ (0 < L.length) := by omega
      have hL0 : ((L.length : Int)) ≤ 0 := by omega
      clear h0
      go_enter Try.func45, Try.ntmps45
      go_wp2
      refine wp_loop_rounds 1 ?_
      rw [rounds_succ]
      go_wp2_with (go_at_call 85; refine (rtime_calls _ _).mono ?_; rintro e w' ⟨rfl, rfl⟩)
      go_ret
      rw [HF.out]
      exact ⟨_, rfl, SOwn.nil _ _, Fr.refl _ _⟩
    · have hle : 0 < L.length := by omega
      cases htb : timeB now with
      | false =>
        clear h0 hgo
        go_enter Try.func45, Try.ntmps45
        go_wp2
        refine wp_loop_rounds 1 ?_
        rw [rounds_succ]
        go_wp2_with (go_at_call 85; refine (rtime_calls _ _).mono ?_; rintro e w' ⟨rfl, rfl⟩)
        go_ret
        rw [HF.out]
        exact ⟨_, rfl, SOwn.nil _ _, Fr.refl _ _⟩
      | true =>
        have hl0 : len < 0 := by
          rw [htb] at hgo
          simpa using hgo
        clear h0 hgo
        go_enter Try.func45, Try.ntmps45
        go_wp2
        refine wp_loop_rounds 1 ?_
        rw [rounds_succ]
        go_wp2_with (go_at_call 85; refine (rtime_calls _ _).mono ?_; rintro e w' ⟨rfl, rfl⟩)
        go_ret
        rw [HF.out]
        exact ⟨_, rfl, SOwn.nil _ _, Fr.refl _ _⟩

end Go.Proofs.Ytdpchfifaidamaa.T
