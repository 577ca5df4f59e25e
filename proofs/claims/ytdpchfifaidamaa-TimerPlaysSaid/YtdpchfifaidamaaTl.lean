/- Contracts of the reference's Less, time, among. No condition. -/
import Derived.Test.YtdpchfifaidamaaB4
import Derived.Test.YtdpchfifaidamaaTc
namespace Go.Proofs.Ytdpchfifaidamaa.T
open Go.RowKit Go.Maps Go.Proofs.YtdpchfifaidamaaW.PrintWords Go.Proofs.Ytdpchfifaidamaa.B
set_option linter.unusedVariables false
set_option linter.unusedSimpArgs false

theorem bl_pre : ∀ (k : Nat) (x y : List UInt8), x.take k = y.take k → k ≤ x.length → k ≤ y.length → Op.bytesLess x y = Op.bytesLess (x.drop k) (y.drop k)
  | 0, x, y, _, _, _ => by simp
  | k + 1, [], y, _, h, _ => by simp at h
  | k + 1, _ :: _, [], _, _, h => by simp at h
  | k + 1, a :: x, b :: y, h, h1, h2 => by
    simp only [List.take_succ_cons, List.cons.injEq] at h
    obtain ⟨rfl, h⟩ := h
    have := bl_pre k x y h (by simpa using h1) (by simpa using h2)
    simp [Op.bytesLess, this]

set_option maxRecDepth 100000 in
set_option maxHeartbeats 1000000 in
theorem less_calls (w : World) (a b : ByteArray) (ha : a.size ≤ maxLen) (hb : b.size ≤ maxLen) :
    Calls Try.prog 114 #[.string a, .string b] w fun e w' => e = .returned (.bool (Op.bytesLess a.toList b.toList)) ∧ ∃ m, w' = w.drewN m := by
  have hla : a.toList.length = a.size := by rw [ByteArray.toList_eq]; simp
  have hlb : b.toList.length = b.size := by rw [ByteArray.toList_eq]; simp
  have HLA := Aside0.mk hla
  have HLB := Aside0.mk hlb
  have hma : a.size ≤ 9223372036854775807 := by simpa [maxLen] using ha
  have hmb : b.size ≤ 9223372036854775807 := by simpa [maxLen] using hb
  clear hla hlb ha hb
  go_enter Try.func114, Try.ntmps114
  go_wp2
  go_loopw [5] (fun i wr => ∃ k : Nat, k ≤ a.size ∧ k ≤ b.size ∧ i = .int .i64 k ∧ Aside0 (a.toList.take k = b.toList.take k) ∧ ∃ m, wr = w.drewN m) (fun i _ => a.size - (intOf i).toNat)
  case atStart => exact ⟨0, Nat.zero_le _, Nat.zero_le _, rfl, ⟨rfl⟩, 0, rfl⟩
  case round =>
    obtain ⟨k, hka, hkb, rfl, HT, m, rfl⟩ := hrel
    by_cases h1 : k < a.size
    · by_cases h2 : k < b.size
      · have hk0 : (0 : Int) ≤ k := by omega
        have hk1 : (k : Int) < a.size := by omega
        have hk2 : (k : Int) < b.size := by omega
        have hxa : a.toList[k]? = some a[k] := by rw [ByteArray.toList_eq]; simp [ByteArray.getElem_eq_getElem_data, h1]
        have hxb : b.toList[k]? = some b[k] := by rw [ByteArray.toList_eq]; simp [ByteArray.getElem_eq_getElem_data, h2]
        have HXA := Aside0.mk hxa
        have HXB := Aside0.mk hxb
        clear hxa hxb
        by_cases he : a[k] = b[k]
        · have hb1 : (((a[k]).toNat : Int) != ((b[k]).toNat : Int)) = false := by simp [he]
          have HE := Aside0.mk he
          clear he
          go_wp2
          go_quiet (fail)
          go_wp2
          go_roundw
          case rel =>
            refine ⟨k + 1, by omega, by omega, by go_num, ⟨?_⟩, _, rfl⟩
            rw [List.take_add_one, List.take_add_one, HT.out, HXA.out, HXB.out, HE.out]
          case measure => simp [intOf]; omega
        · have hne : ((a[k]).toNat : Int) ≠ ((b[k]).toNat : Int) := fun h => he (UInt8.toNat_inj.1 (by omega))
          have hb1 : (((a[k]).toNat : Int) != ((b[k]).toNat : Int)) = true := by simpa using hne
          have hfin : Op.bytesLess a.toList b.toList = decide ((a[k]).toNat < (b[k]).toNat) := by
            rw [bl_pre k _ _ HT.out (by rw [HLA.out]; omega) (by rw [HLB.out]; omega)]
            have da : a.toList.drop k = a[k] :: a.toList.drop (k + 1) := by
              have hl : k < a.toList.length := by rw [HLA.out]; omega
              rw [List.drop_eq_getElem_cons hl]
              have := HXA.out
              rw [List.getElem?_eq_getElem hl] at this
              rw [Option.some.inj this]
            have db : b.toList.drop k = b[k] :: b.toList.drop (k + 1) := by
              have hl : k < b.toList.length := by rw [HLB.out]; omega
              rw [List.drop_eq_getElem_cons hl]
              have := HXB.out
              rw [List.getElem?_eq_getElem hl] at this
              rw [Option.some.inj this]
            rw [da, db]
            have hbe : (a[k] == b[k]) = false := by simpa using he
            simp only [Op.bytesLess, hbe, Bool.false_and, Bool.or_false]
            rfl
          have HF := Aside0.mk hfin
          clear he hne hfin
          go_wp2
          repeat (go_quiet (fail); try go_wp2)
          all_goals
            go_ret
            exact ⟨by rw [HF.out]; rfl, _, by first | rfl | exact World.drewN_drewN .. | (rw [World.drewN_drewN, World.drewN_drewN])⟩
      · have hb2 : k = b.size := by omega
        have hfin : Op.bytesLess a.toList b.toList = false := by
          rw [bl_pre k _ _ HT.out (by rw [HLA.out]; omega) (by rw [HLB.out]; omega)]
          have : b.toList.drop k = [] := List.drop_eq_nil_of_le (by rw [HLB.out]; omega)
          rw [this]
          cases List.drop k a.toList <;> rfl
        have HF := Aside0.mk hfin
        clear hfin hb2
        go_wp2
        go_ret
        refine ⟨?_, _, rfl⟩
        rw [HF.out]
        congr 1
        simp
        omega
    · have hfin : Op.bytesLess a.toList b.toList = decide (a.size < b.size) := by
        rw [bl_pre k _ _ HT.out (by rw [HLA.out]; omega) (by rw [HLB.out]; omega)]
        have : a.toList.drop k = [] := List.drop_eq_nil_of_le (by rw [HLA.out]; omega)
        rw [this]
        rcases Nat.lt_or_ge k b.size with h | h
        · have : b.toList.drop k ≠ [] := by
            intro e
            have := List.length_drop (i := k) (l := b.toList)
            rw [e, HLB.out] at this
            simp at this
            omega
          cases hd : List.drop k b.toList with
          | nil => exact absurd hd this
          | cons y r => simp [Op.bytesLess]; omega
        · have : b.toList.drop k = [] := List.drop_eq_nil_of_le (by rw [HLB.out]; omega)
          rw [this]
          simp [Op.bytesLess]
          omega
      have HF := Aside0.mk hfin
      clear hfin
      go_wp2
      go_ret
      exact ⟨by rw [HF.out]; rfl, _, rfl⟩

theorem rtime_calls (n : Int) (w : World) : Calls Try.prog 85 #[.int .i64 n] w fun e w' => e = .returned (.bool (timeB n)) ∧ w = w' := by
  have hf : timeB n = (decide (0 ≤ n) && decide (n ≤ 1099511627776)) := rfl
  have Hf := Aside0.mk hf
  clear hf
  by_cases h : 0 ≤ n
  · have hd : decide (0 ≤ n) = true := decide_eq_true h
    go_enter Try.func85, Try.ntmps85
    go_wp2
    go_ret
    exact ⟨by rw [Hf.out]; simp <;> omega, rfl⟩
  · have hd : decide (0 ≤ n) = false := decide_eq_false h
    go_enter Try.func85, Try.ntmps85
    go_wp2
    go_ret
    exact ⟨by rw [Hf.out]; simp <;> omega, rfl⟩

set_option maxRecDepth 100000 in
set_option maxHeartbeats 1000000 in
theorem among_calls (w : World) (A : Option Addr) (c : Nat) (l : List ByteArray) (s : ByteArray) (h : Kd.C Kd.string w A l.length l) (hl : l.length ≤ 1000000000) :
    Calls Try.prog 86 #[.slice A l.length c, .string s] w fun e w' => e = .returned (.bool (decide (s ∈ l))) ∧ w = w' := by
  have H := Aside0.mk h
  clear h
  go_enter Try.func86, Try.ntmps86
  go_wp2
  go_loop [5] (fun i => ∃ k : Nat, k ≤ l.length ∧ i = .int .i64 k ∧ Aside0 (¬ s ∈ l.take k)) (fun i => l.length - (intOf i).toNat)
  case atStart => exact ⟨0, Nat.zero_le _, rfl, ⟨by simp⟩⟩
  case round =>
    obtain ⟨k, hk, rfl, HT⟩ := hrel
    by_cases hlt : k < l.length
    · obtain ⟨ad, e, hcell⟩ := Kd.at_string H.out (k : Int) (by omega) (by omega)
      cases e
      have e1 := take_snoc l k hlt
      obtain ⟨x, hx⟩ : ∃ x, x = rdOf ByteArray.empty l (k : Int) := ⟨_, rfl⟩
      rw [← hx] at hcell e1
      rw [Int.toNat_natCast] at hcell
      have hxm : x ∈ l := by rw [hx, rdOf_lt l k hlt]; exact List.getElem_mem hlt
      have E1 := Aside0.mk e1
      have HXM := Aside0.mk hxm
      clear e1 hx hxm
      by_cases he : x = s
      · have hb : (x.toList == s.toList) = true := by simp [he]
        have HF := Aside0.mk (show decide (s ∈ l) = true by rw [← he]; simpa using HXM.out)
        clear he
        go_wp2
        go_ret
        exact ⟨by rw [HF.out]; rfl, rfl⟩
      · have hb : (x.toList == s.toList) = false := by simpa using toList_ne he
        have HE := Aside0.mk he
        clear he
        go_wp2
        go_round
        case rel => exact ⟨k + 1, by omega, by go_num, ⟨by rw [E1.out]; intro h; rcases List.mem_append.1 h with h | h; exact HT.out h; simp at h; exact HE.out h.symm⟩⟩
        case measure => simp [intOf]; omega
    · obtain rfl : k = l.length := by omega
      have HF := Aside0.mk (show decide (s ∈ l) = false by have := HT.out; rw [List.take_length] at this; simpa using this)
      go_wp2
      go_ret
      exact ⟨by rw [HF.out]; rfl, rfl⟩

end Go.Proofs.Ytdpchfifaidamaa.T
