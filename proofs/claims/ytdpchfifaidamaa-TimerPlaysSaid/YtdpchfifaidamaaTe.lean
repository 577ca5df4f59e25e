/- The contracts of the timer's Ripe and Copy, and of a table that is not there. No condition. -/
import Derived.Test.YtdpchfifaidamaaTd
namespace Go.Proofs.Ytdpchfifaidamaa.T
open Go.RowKit Go.Maps Go.Proofs.YtdpchfifaidamaaW.PrintWords Go.Proofs.Ytdpchfifaidamaa.B
set_option linter.unusedVariables false
set_option linter.unusedSimpArgs false

def ripeB (f : ByteArray → Option Int) (now len : Int) (s : ByteArray) : Bool := decide (len ≤ now - at0 f s)
structure RI (w1 wr : World) (f : ByteArray → Option Int) (now len : Int) (v : Value) (l : List ByteArray) : Prop where
  own : SOwn wr w1.heap.size v (l.filter (ripeB f now len))
  fr : Fr no w1 wr
def Times (f : ByteArray → Option Int) : Prop := ∀ s c, s.size ≤ maxLen → f s = some c → 0 ≤ c ∧ c ≤ 1099511627776
theorem Times.at0 {f : ByteArray → Option Int} (h : Times f) {s : ByteArray} (hs : s.size ≤ maxLen) : 0 ≤ at0 f s ∧ at0 f s ≤ 1099511627776 := by
  unfold T.at0
  cases hf : f s with
  | none => simp
  | some c => exact h s c hs hf
def RipePost (w : World) (n : Nat) (f : ByteArray → Option Int) (now len : Int) (e : Ending) (w' : World) : Prop :=
  ∃ v l, e = .returned v ∧ SOwn w' w.heap.size v (l.filter (ripeB f now len)) ∧ NamesRes f n l ∧ Fr no w w'

set_option maxRecDepth 100000 in
set_option maxHeartbeats 2000000 in
theorem ripe_yes (w : World) (g b n : Nat) (f : ByteArray → Option Int) (now len : Int) (H : TT w g b n f) (hn : n < 1000000000) (hf : Times f) (ht : timeB now = true) (hl : 0 ≤ len) :
    Calls Try.prog 18 #[.pointer (some ⟨g, 0, none⟩), .int .i64 now, .int .i64 len] w (RipePost w n f now len) := by
  have HH := Aside0.mk H
  have hc0 : w.cell? ⟨g, 0, none⟩ = some (.map (some b)) := (blk_cell H.blk 0).trans rfl
  have HN := Aside0.mk hn
  have HF := Aside0.mk hf
  have htb : 0 ≤ now ∧ now ≤ 1099511627776 := by simpa [timeB] using ht
  obtain ⟨hn0, hn1⟩ := htb
  clear H hf
  go_enter Try.func18, Try.ntmps18
  go_wp2_with (first
    | (go_at_call 77; refine (there_yes _ g b hc0).mono ?_; rintro e w' ⟨rfl, rfl⟩)
    | (go_at_call 78; refine (time_calls _ _).mono ?_; rintro e w' ⟨rfl, rfl⟩)
    | (go_at_call 20; refine (names_calls _ g b n f HH.out HN.out).mono ?_; rintro e w1 ⟨v0, nl, rfl, ho, hr, hfr⟩; obtain ⟨A, cp, rfl, hle, hC⟩ := ho.form; have HO := Aside0.mk ho; have HR := Aside0.mk hr; have HF1 := Aside0.mk hfr; have HC := Aside0.mk hC; clear ho hr hfr hC))
  have htw1 : TT w1 g b n f := HH.out.fr HF1.out (fun h => h) (fun h => h)
  have HT1 := Aside0.mk htw1
  clear htw1
  have hnl : nl.length < 1000000000 := by have := HR.out.len; have := HN.out; omega
  go_loopw [7, 25] (fun v i wr => ∃ k : Nat, k ≤ nl.length ∧ i = .int .i64 k ∧ Aside0 (RI w1 wr f now len v (nl.take k))) (fun _ i _ => nl.length - (intOf i).toNat)
  case atStart => exact ⟨0, Nat.zero_le _, rfl, ⟨⟨SOwn.nil _ _, Fr.refl _ _⟩⟩⟩
  case round =>
    obtain ⟨k, hk, rfl, HI⟩ := hrel
    by_cases hlt : k < nl.length
    · obtain ⟨ad, e, hcell⟩ := Kd.at_string HC.out (k : Int) (by omega) (by omega)
      cases e
      obtain ⟨x, hx⟩ : ∃ x, x = rdOf ByteArray.empty nl (k : Int) := ⟨_, rfl⟩
      rw [← hx] at hcell
      have hxl : nl.take (k + 1) = nl.take k ++ [x] := by
        rw [List.take_succ_eq_append_getElem hlt, hx]
        simp [rdOf, List.getD_eq_getElem?_getD, List.getElem?_eq_getElem hlt]
      have hxm : x ∈ nl := by
        have : x ∈ nl.take (k + 1) := by rw [hxl]; simp
        exact List.mem_of_mem_take this
      have hxs : x.size ≤ maxLen := ((HR.out.mem x).1 hxm).1
      have HXS := Aside0.mk hxs
      have HXL := Aside0.mk hxl
      have hcell' : wr.cell? (ad.add k) = some (.string x) := cell_fr (by simpa using hcell) HI.out.fr (fun h => h)
      have htr := HT1.out.fr HI.out.fr (fun h => h) (fun h => h)
      have HTR := Aside0.mk htr
      have hcg : wr.cell? ⟨g, 0, none⟩ = some (.map (some b)) := (blk_cell htr.blk 0).trans rfl
      obtain ⟨h0, h1⟩ := HF.out.at0 hxs
      obtain ⟨t0, ht0⟩ : ∃ t0, t0 = at0 f x := ⟨_, rfl⟩
      have HT0 := Aside0.mk ht0
      have ht0' : Aside0 ((f x).getD 0 = t0) := ⟨ht0.symm⟩
      rw [← ht0] at h0 h1
      have hfl : ((nl.take k).filter (ripeB f now len)).length < 1000000000000 := by
        have h9 := List.length_filter_le (ripeB f now len) (nl.take k)
        have h8 : (nl.take k).length = k := by simp; omega
        omega
      have HFL := Aside0.mk hfl
      clear hx hxl hcell hxm hxs htr ht0 hfl
      go_wp2_with (first
        | (at_lookup; refine wpL_lookup rfl _ _ rfl rfl HTR.out.map x rfl HXS.out ?_; rw [ht0'.out])
        | (at_builtin; refine wpL_append_str w1.heap.size rfl _ _ rfl _ _ x wr.heap.size rfl rfl (heap_alloc_new wr _) (HI.out.own.alloc _) ?_ HFL.out ?_; (exact Nat.le_trans HI.out.fr.size (by simp)); intro g2 c2 w3 ho3 hf3 hb3 hl3 hc3; have HO3 := Aside0.mk ho3; have HF3 := Aside0.mk (show Fr (fun k => u7.ownBlock = some k) (wr.alloc _) w3 from hf3); clear ho3 hf3 hb3 hl3))
      · go_roundw
        case rel =>
          have hr : ripeB f now len x = true := by
            unfold ripeB
            rw [← HT0.out]
            simpa using (by assumption : len ≤ now - t0)
          refine ⟨k + 1, by omega, by go_num, ⟨⟨?_, ?_⟩⟩⟩
          · rw [HXL.out, List.filter_append, show List.filter (ripeB f now len) [x] = [x] by simp [hr]]
            exact HO3.out
          · exact (HI.out.fr.alloc _).then_ HF3.out (fun k hk => .inr (HI.out.own.base_le hk))
        case measure => simp [intOf]; omega
      · go_roundw
        case rel =>
          have hr : ripeB f now len x = false := by
            unfold ripeB
            rw [← HT0.out]
            simpa using (by assumption : now - t0 < len)
          refine ⟨k + 1, by omega, by go_num, ⟨⟨?_, HI.out.fr⟩⟩⟩
          rw [HXL.out, List.filter_append, show List.filter (ripeB f now len) [x] = [] by simp [hr], List.append_nil]
          exact HI.out.own
        case measure => simp [intOf]; omega
    · obtain rfl : k = nl.length := by omega
      go_wp2
      go_ret
      have ho := HI.out.own
      rw [List.take_length] at ho
      have hb : w.heap.size ≤ w1.heap.size := HF1.out.size
      exact ⟨_, nl, rfl, own_less ho hb, HR.out, HF1.out.then_ HI.out.fr (fun _ h => h.elim)⟩

/-- no time, or a length below 0: nothing. -/
theorem ripe_no (w : World) (g b n : Nat) (f : ByteArray → Option Int) (now len : Int) (H : TT w g b n f) (hb : (timeB now && decide (0 ≤ len)) = false) :
    Calls Try.prog 18 #[.pointer (some ⟨g, 0, none⟩), .int .i64 now, .int .i64 len] w fun e w' => e = .returned (.slice none 0 0) ∧ w = w' := by
  have hc0 : w.cell? ⟨g, 0, none⟩ = some (.map (some b)) := (blk_cell H.blk 0).trans rfl
  clear H
  cases ht : timeB now with
  | false =>
    clear hb
    go_enter Try.func18, Try.ntmps18
    go_wp2_with (first
      | (go_at_call 77; refine (there_yes _ g b hc0).mono ?_; rintro e w' ⟨rfl, rfl⟩)
      | (go_at_call 78; refine (time_calls _ _).mono ?_; rintro e w' ⟨rfl, rfl⟩))
    go_ret
    exact ⟨rfl, rfl⟩
  | true =>
    rw [ht] at hb
    have hl : len < 0 := by simpa using hb
    clear hb
    go_enter Try.func18, Try.ntmps18
    go_wp2_with (first
      | (go_at_call 77; refine (there_yes _ g b hc0).mono ?_; rintro e w' ⟨rfl, rfl⟩)
      | (go_at_call 78; refine (time_calls _ _).mono ?_; rintro e w' ⟨rfl, rfl⟩))
    go_ret
    exact ⟨rfl, rfl⟩
/-- no time: nothing is noted. -/
theorem note_no (w : World) (g b n : Nat) (f : ByteArray → Option Int) (v : Value) (now : Int) (H : TT w g b n f) (ht : timeB now = false) :
    Calls Try.prog 16 #[.pointer (some ⟨g, 0, none⟩), v, .int .i64 now] w fun e w' => e = .returned (.tuple #[]) ∧ w = w' := by
  have hc0 : w.cell? ⟨g, 0, none⟩ = some (.map (some b)) := (blk_cell H.blk 0).trans rfl
  clear H
  go_enter Try.func16, Try.ntmps16
  go_wp2_with (first
    | (go_at_call 77; refine (there_yes _ g b hc0).mono ?_; rintro e w' ⟨rfl, rfl⟩)
    | (go_at_call 78; refine (time_calls _ _).mono ?_; rintro e w' ⟨rfl, rfl⟩))
  exact ret0 rfl rfl ⟨rfl, rfl⟩

/-! ### a table that is not there -/
theorem note_nil (w : World) (v : Value) (now : Int) : Calls Try.prog 16 #[.pointer none, v, .int .i64 now] w fun e w' => e = .returned (.tuple #[]) ∧ w = w' := by
  go_enter Try.func16, Try.ntmps16
  go_wp2_with (go_at_call 77; refine (there_nil _).mono ?_; rintro e w' ⟨rfl, rfl⟩)
  exact ret0 rfl rfl ⟨rfl, rfl⟩
theorem note_zero (w : World) (g : Nat) (v : Value) (now : Int) (hc : w.cell? ⟨g, 0, none⟩ = some (.map none)) : Calls Try.prog 16 #[.pointer (some ⟨g, 0, none⟩), v, .int .i64 now] w fun e w' => e = .returned (.tuple #[]) ∧ w = w' := by
  go_enter Try.func16, Try.ntmps16
  go_wp2_with (go_at_call 77; refine (there_zero _ g hc).mono ?_; rintro e w' ⟨rfl, rfl⟩)
  exact ret0 rfl rfl ⟨rfl, rfl⟩
theorem ripe_nil (w : World) (now len : Int) : Calls Try.prog 18 #[.pointer none, .int .i64 now, .int .i64 len] w fun e w' => e = .returned (.slice none 0 0) ∧ w = w' := by
  go_enter Try.func18, Try.ntmps18
  go_wp2_with (go_at_call 77; refine (there_nil _).mono ?_; rintro e w' ⟨rfl, rfl⟩)
  go_ret
  exact ⟨rfl, rfl⟩
theorem ripe_zero (w : World) (g : Nat) (now len : Int) (hc : w.cell? ⟨g, 0, none⟩ = some (.map none)) : Calls Try.prog 18 #[.pointer (some ⟨g, 0, none⟩), .int .i64 now, .int .i64 len] w fun e w' => e = .returned (.slice none 0 0) ∧ w = w' := by
  go_enter Try.func18, Try.ntmps18
  go_wp2_with (go_at_call 77; refine (there_zero _ g hc).mono ?_; rintro e w' ⟨rfl, rfl⟩)
  go_ret
  exact ⟨rfl, rfl⟩
theorem names_nil (w : World) : Calls Try.prog 20 #[.pointer none] w fun e w' => e = .returned (.slice none 0 0) ∧ w = w' := by
  go_enter Try.func20, Try.ntmps20
  go_wp2_with (go_at_call 77; refine (there_nil _).mono ?_; rintro e w' ⟨rfl, rfl⟩)
  go_ret
  exact ⟨rfl, rfl⟩
theorem names_zero (w : World) (g : Nat) (hc : w.cell? ⟨g, 0, none⟩ = some (.map none)) : Calls Try.prog 20 #[.pointer (some ⟨g, 0, none⟩)] w fun e w' => e = .returned (.slice none 0 0) ∧ w = w' := by
  go_enter Try.func20, Try.ntmps20
  go_wp2_with (go_at_call 77; refine (there_zero _ g hc).mono ?_; rintro e w' ⟨rfl, rfl⟩)
  go_ret
  exact ⟨rfl, rfl⟩
theorem copy_nil (w : World) : Calls Try.prog 42 #[.pointer none] w fun e w' => e = .returned (.pointer none) ∧ w = w' := by
  go_enter Try.func42, Try.ntmps42
  go_wp2_with (go_at_call 77; refine (there_nil _).mono ?_; rintro e w' ⟨rfl, rfl⟩)
  go_ret
  exact ⟨rfl, rfl⟩
theorem copy_zero (w : World) (g : Nat) (hc : w.cell? ⟨g, 0, none⟩ = some (.map none)) : Calls Try.prog 42 #[.pointer (some ⟨g, 0, none⟩)] w fun e w' => e = .returned (.pointer none) ∧ w = w' := by
  go_enter Try.func42, Try.ntmps42
  go_wp2_with (go_at_call 77; refine (there_zero _ g hc).mono ?_; rintro e w' ⟨rfl, rfl⟩)
  go_ret
  exact ⟨rfl, rfl⟩

end Go.Proofs.Ytdpchfifaidamaa.T
