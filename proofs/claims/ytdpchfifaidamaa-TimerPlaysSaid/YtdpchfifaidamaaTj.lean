/- The contract of the timer law's light. No condition. -/
import Derived.Test.YtdpchfifaidamaaTg
import Derived.Test.YtdpchfifaidamaaB3
namespace Go.Proofs.Ytdpchfifaidamaa.T
open Go.RowKit Go.Maps Go.Proofs.YtdpchfifaidamaaW.PrintWords Go.Proofs.Ytdpchfifaidamaa.B
set_option linter.unusedVariables false
set_option linter.unusedSimpArgs false

def lightB (l : List ByteArray) : Bool := decide (l.length ≤ 20) && l.all (fun s => decide (s.size ≤ 300))

set_option maxRecDepth 100000 in
set_option maxHeartbeats 1000000 in
theorem light_calls (w : World) (x y z : Int) (A : Option Addr) (c : Nat) (l : List ByteArray) (h : Kd.C Kd.string w A l.length l) (hl : l.length ≤ 9223372036854775807) :
    Calls Try.prog 19 #[.agg #[.int .i64 x, .slice A l.length c, .int .i64 y, .int .i64 z]] w fun e w' => e = .returned (.bool (lightB l)) ∧ Fr no w w' := by
  have hu36 := Try.underlying36
  have H := Aside0.mk h
  clear h
  have hbox := heap_alloc_new w (.cells #[.int .i64 x, .slice A l.length c, .int .i64 y, .int .i64 z] 36)
  have hc1 : (w.alloc (.cells #[.int .i64 x, .slice A l.length c, .int .i64 y, .int .i64 z] 36)).cell? ⟨w.heap.size, 1, none⟩ = some (.slice A l.length c) := (blk_cell hbox 1).trans rfl
  clear hbox
  by_cases hb : 20 < l.length
  · have hd : decide (20 < (l.length : Int)) = true := decide_eq_true (by omega)
    have hd2 : decide (20 < l.length) = true := decide_eq_true hb
    have HF := Aside0.mk (show lightB l = false by unfold lightB; simp; omega)
    go_enter Try.func19, Try.ntmps19
    go_wp2
    go_ret
    exact ⟨by rw [HF.out]; rfl, (Fr.refl w no).alloc _⟩
  · have hd : decide (20 < (l.length : Int)) = false := decide_eq_false (by omega)
    have hd2 : decide (20 < l.length) = false := decide_eq_false hb
    go_enter Try.func19, Try.ntmps19
    go_wp2
    go_loop [3] (fun i => ∃ k : Nat, k ≤ l.length ∧ i = .int .i64 k ∧ Aside0 ((l.take k).all (fun s => decide (s.size ≤ 300)) = true)) (fun i => l.length - (intOf i).toNat)
    case atStart => exact ⟨0, Nat.zero_le _, rfl, ⟨rfl⟩⟩
    case round =>
      obtain ⟨k, hk, rfl, HT⟩ := hrel
      by_cases hlt : k < l.length
      · obtain ⟨ad, e, hcell⟩ := Kd.at_string H.out (k : Int) (by omega) (by omega)
        cases e
        have e1 := take_snoc l k hlt
        obtain ⟨s, hx⟩ : ∃ s, s = rdOf ByteArray.empty l (k : Int) := ⟨_, rfl⟩
        rw [← hx] at hcell e1
        have hsm : s ∈ l := by
          rw [hx, rdOf_lt l k hlt]
          exact List.getElem_mem hlt
        rw [Int.toNat_natCast] at hcell
        have hcell' : (w.alloc (.cells #[.int .i64 x, .slice (some ad) l.length c, .int .i64 y, .int .i64 z] 36)).cell? (ad.add k) = some (.string s) := cell_fr hcell ((Fr.refl w no).alloc _) (fun h => h)
        have E1 := Aside0.mk e1
        have HSM := Aside0.mk hsm
        clear e1 hx hcell hsm
        by_cases h3 : 300 < s.size
        · have hd3 : decide (300 < s.size) = true := decide_eq_true h3
          have HF := Aside0.mk (show lightB l = false by
            unfold lightB
            simp only [Bool.and_eq_false_iff, List.all_eq_false]
            exact .inr ⟨s, HSM.out, by simp; omega⟩)
          go_wp2
          go_ret
          exact ⟨by rw [HF.out]; rfl, (Fr.refl w no).alloc _⟩
        · have hd3 : decide (300 < s.size) = false := decide_eq_false h3
          go_wp2
          go_round
          case rel => exact ⟨k + 1, by omega, by go_num, ⟨by rw [E1.out, List.all_append, HT.out]; simp; omega⟩⟩
          case measure => simp [intOf]; omega
      · obtain rfl : k = l.length := by omega
        have HF := Aside0.mk (show lightB l = true by
          have := HT.out
          rw [List.take_length] at this
          unfold lightB
          rw [this]
          simp
          omega)
        go_wp2
        go_ret
        exact ⟨by rw [HF.out]; rfl, (Fr.refl w no).alloc _⟩

end Go.Proofs.Ytdpchfifaidamaa.T
