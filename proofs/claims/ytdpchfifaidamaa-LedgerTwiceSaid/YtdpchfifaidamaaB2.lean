/- The contract of the reference's Texts: two lists of texts are one. No condition. -/
import Derived.Test.YtdpchfifaidamaaB1
namespace Go.Proofs.Ytdpchfifaidamaa.B
open Go.RowKit Go.Maps Go.Proofs.YtdpchfifaidamaaW.PrintWords
set_option linter.unusedVariables false
set_option linter.unusedSimpArgs false

theorem rdOf_lt (l : List ByteArray) (k : Nat) (h : k < l.length) : rdOf ByteArray.empty l (k : Int) = l[k] := by
  simp [rdOf, List.getD_eq_getElem?_getD, List.getElem?_eq_getElem h]
theorem take_snoc (l : List ByteArray) (k : Nat) (h : k < l.length) : l.take (k + 1) = l.take k ++ [rdOf ByteArray.empty l (k : Int)] := by
  rw [List.take_succ_eq_append_getElem h, rdOf_lt l k h]
theorem toList_ne {a b : ByteArray} (h : a ≠ b) : a.toList ≠ b.toList := by
  intro e
  rw [ByteArray.toList_eq, ByteArray.toList_eq] at e
  exact h (ByteArray.ext (Array.ext' e))

set_option maxRecDepth 100000 in
set_option maxHeartbeats 1000000 in
theorem texts_calls (w : World) (A : Option Addr) (c : Nat) (l : List ByteArray) (A' : Option Addr) (c' : Nat) (l' : List ByteArray) (h : Kd.C Kd.string w A l.length l) (h' : Kd.C Kd.string w A' l'.length l') (hl : l.length < 1000000000000) :
    Calls Try.prog 35 #[.slice A l.length c, .slice A' l'.length c'] w fun e w' => e = .returned (.bool (decide (l = l'))) ∧ ∃ m, w' = w.drewN m := by
  have H := Aside0.mk h
  have H' := Aside0.mk h'
  clear h h'
  by_cases hlen : l.length = l'.length
  · have hb : ((l.length : Int) != (l'.length : Int)) = false := by simp [hlen]
    have HL := Aside0.mk hlen
    clear hlen
    go_enter Try.func35, Try.ntmps35
    go_wp2
    go_loopw [5] (fun i wr => ∃ k : Nat, k ≤ l.length ∧ i = .int .i64 k ∧ Aside0 (l.take k = l'.take k) ∧ ∃ m, wr = w.drewN m) (fun i _ => l.length - (intOf i).toNat)
    case atStart => exact ⟨0, Nat.zero_le _, rfl, ⟨rfl⟩, 0, rfl⟩
    case round =>
      obtain ⟨k, hk, rfl, HT, m, rfl⟩ := hrel
      by_cases hlt : k < l.length
      · have hlt' : k < l'.length := by have := HL.out; omega
        obtain ⟨ad, e, hcell⟩ := Kd.at_string H.out (k : Int) (by omega) (by omega)
        cases e
        obtain ⟨ad', e, hcell'⟩ := Kd.at_string H'.out (k : Int) (by omega) (by omega)
        cases e
        have e1 := take_snoc l k hlt
        have e2 := take_snoc l' k hlt'
        obtain ⟨x, hx⟩ : ∃ x, x = rdOf ByteArray.empty l (k : Int) := ⟨_, rfl⟩
        obtain ⟨y, hy⟩ : ∃ y, y = rdOf ByteArray.empty l' (k : Int) := ⟨_, rfl⟩
        rw [← hx] at hcell e1
        rw [← hy] at hcell' e2
        have E1 := Aside0.mk e1
        have E2 := Aside0.mk e2
        rw [Int.toNat_natCast] at hcell hcell'
        clear e1 e2 hx hy
        have hk0 : (0 : Int) ≤ k := by omega
        have hk1 : (k : Int) < l.length := by omega
        have hk2 : (k : Int) < l'.length := by omega
        by_cases hxy : x = y
        · have hb2 : (x.toList != y.toList) = false := by simp [hxy]
          have hb3 : (x.toList == y.toList) = true := by simp [hxy]
          have HXY := Aside0.mk hxy
          clear hxy
          go_wp2
          go_quiet (fail)
          go_wp2
          go_roundw
          case rel => exact ⟨k + 1, by omega, by go_num, ⟨by rw [E1.out, E2.out, HT.out, HXY.out]⟩, _, rfl⟩
          case measure => simp [intOf]; omega
        · have hb2 : (x.toList != y.toList) = true := by simpa using toList_ne hxy
          have hb3 : (x.toList == y.toList) = false := by simpa using toList_ne hxy
          have HXY := Aside0.mk hxy
          clear hxy
          go_wp2
          go_quiet (fail)
          go_wp2
          go_ret
          refine ⟨?_, _, World.drewN_drewN ..⟩
          have : decide (l = l') = false := by
            simp only [decide_eq_false_iff_not]
            intro e
            apply HXY.out
            have := E1.out.symm.trans ((by rw [e] : l.take (k + 1) = l'.take (k + 1)).trans E2.out)
            rw [HT.out] at this
            simpa using List.append_cancel_left this
          rw [this]
          rfl
      · obtain rfl : k = l.length := by omega
        go_wp2
        go_ret
        refine ⟨?_, _, rfl⟩
        have : decide (l = l') = true := by
          have h1 := HT.out
          rw [List.take_length, HL.out, List.take_length] at h1
          simp [h1]
        rw [this]
        rfl
  · have hb : ((l.length : Int) != (l'.length : Int)) = true := by simpa using (fun e => hlen (by omega))
    have hd : decide (l = l') = false := by simp only [decide_eq_false_iff_not]; intro e; exact hlen (by rw [e])
    have HD := Aside0.mk hd
    clear hlen hd
    go_enter Try.func35, Try.ntmps35
    go_wp2
    go_ret
    exact ⟨by rw [HD.out]; rfl, 0, rfl⟩

end Go.Proofs.Ytdpchfifaidamaa.B
