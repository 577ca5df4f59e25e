/- Contracts of the timer's small functions (New, there, time, Since, Drop). No condition. -/
import Derived.Test.YtdpchfifaidamaaB0
namespace Go.Proofs.Ytdpchfifaidamaa.T
open Go.RowKit Go.Maps Go.Proofs.YtdpchfifaidamaaW.PrintWords Go.Proofs.Ytdpchfifaidamaa.B
set_option linter.unusedVariables false
set_option linter.unusedSimpArgs false

/-- A timer's table in block g; its map in block b. -/
structure TT (w : World) (g b n : Nat) (f : ByteArray → Option Int) : Prop where
  blk : w.heap[g]? = some (.cells #[.map (some b)] 67 (0, 0))
  ne : b ≠ g
  map : MapIs w b n f
theorem TT.fr {w w' : World} {g b n : Nat} {f : ByteArray → Option Int} {S : Nat → Prop} (h : TT w g b n f) (hk : Fr S w w') (hg : ¬ S g) (hb : ¬ S b) : TT w' g b n f :=
  ⟨blk_fr h.blk hk hg, h.ne, h.map.fr hk hb⟩

def NewPost (w : World) (e : Ending) (w' : World) : Prop := ∃ g b, e = .returned (.pointer (some ⟨g, 0, none⟩)) ∧ TT w' g b 0 (fun _ => none) ∧ Fr no w w' ∧ w.heap.size ≤ g ∧ w.heap.size ≤ b
set_option maxHeartbeats 400000 in
theorem new_calls (w : World) : Calls Try.prog 15 #[] w (NewPost w) := by
  have hmm := @run_makeMap Try.prog
  go_enter Try.func15, Try.ntmps15
  go_wp2
  go_ret
  refine ⟨w.heap.size + 1, w.heap.size, rfl, ⟨?_, by omega, (MapIs.made w).alloc _⟩, ((Fr.refl w no).alloc _).alloc _, by omega, by omega⟩
  have := heap_alloc_new (w.alloc (.map #[] 0)) (.cells #[.map (some w.heap.size)] 67)
  simpa using this

theorem there_nil (w : World) : Calls Try.prog 77 #[.pointer none] w fun e w' => e = .returned (.bool false) ∧ w = w' := by
  go_enter Try.func77, Try.ntmps77
  go_wp2
  go_ret
  exact ⟨rfl, rfl⟩
theorem there_zero (w : World) (g : Nat) (hc : w.cell? ⟨g, 0, none⟩ = some (.map none)) : Calls Try.prog 77 #[.pointer (some ⟨g, 0, none⟩)] w fun e w' => e = .returned (.bool false) ∧ w = w' := by
  have hq := fun (W : World) => run_neq_map_nil (P := Try.prog) W 65 9 3 none Try.underlying65
  go_enter Try.func77, Try.ntmps77
  go_wp2
  go_ret
  exact ⟨rfl, rfl⟩
theorem there_yes (w : World) (g b : Nat) (hc : w.cell? ⟨g, 0, none⟩ = some (.map (some b))) : Calls Try.prog 77 #[.pointer (some ⟨g, 0, none⟩)] w fun e w' => e = .returned (.bool true) ∧ w = w' := by
  have hq := fun (W : World) => run_neq_map_nil (P := Try.prog) W 65 9 3 (some b) Try.underlying65
  go_enter Try.func77, Try.ntmps77
  go_wp2
  go_ret
  exact ⟨rfl, rfl⟩

def timeB (n : Int) : Bool := decide (0 ≤ n) && decide (n ≤ 1099511627776)
theorem time_calls (n : Int) (w : World) : Calls Try.prog 78 #[.int .i64 n] w fun e w' => e = .returned (.bool (timeB n)) ∧ w = w' := by
  have hf : timeB n = (decide (0 ≤ n) && decide (n ≤ 1099511627776)) := rfl
  have Hf := Aside0.mk hf
  clear hf
  by_cases h : 0 ≤ n
  · have hd : decide (0 ≤ n) = true := decide_eq_true h
    go_enter Try.func78, Try.ntmps78
    go_wp2
    go_ret
    exact ⟨by rw [Hf.out]; simp <;> omega, rfl⟩
  · have hd : decide (0 ≤ n) = false := decide_eq_false h
    go_enter Try.func78, Try.ntmps78
    go_wp2
    go_ret
    exact ⟨by rw [Hf.out]; simp <;> omega, rfl⟩

theorem since_calls (w : World) (g b n : Nat) (f : ByteArray → Option Int) (s : ByteArray) (H : TT w g b n f) (hs : s.size ≤ maxLen) :
    Calls Try.prog 17 #[.pointer (some ⟨g, 0, none⟩), .string s] w fun e w' => e = .returned (.tuple #[.int .i64 ((f s).getD 0), .bool (f s).isSome]) ∧ w = w' := by
  have HM := Aside0.mk H.map
  have hc : w.cell? ⟨g, 0, none⟩ = some (.map (some b)) := (blk_cell H.blk 0).trans rfl
  clear H
  have Hs := Aside0.mk hs
  clear hs
  go_enter Try.func17, Try.ntmps17
  go_wp2_with (first
    | (go_at_call 77; refine (there_yes _ g b hc).mono ?_; rintro e w' ⟨rfl, rfl⟩)
    | (at_lookup; refine wpL_lookup_ok rfl _ _ rfl rfl HM.out s rfl Hs.out ?_))
  go_ret2
  exact ⟨rfl, rfl⟩

def DropPost (w : World) (g b n : Nat) (f : ByteArray → Option Int) (s : ByteArray) (e : Ending) (w' : World) : Prop := e = .returned (.tuple #[]) ∧ TT w' g b n (del f s) ∧ Fr (fun k => k = b) w w'
theorem drop_calls (w : World) (g b n : Nat) (f : ByteArray → Option Int) (s : ByteArray) (H : TT w g b n f) (hs : s.size ≤ maxLen) :
    Calls Try.prog 40 #[.pointer (some ⟨g, 0, none⟩), .string s] w (DropPost w g b n f s) := by
  have HM := Aside0.mk H.map
  have hc : w.cell? ⟨g, 0, none⟩ = some (.map (some b)) := (blk_cell H.blk 0).trans rfl
  have HH := Aside0.mk H
  clear H
  have Hs := Aside0.mk hs
  clear hs
  go_enter Try.func40, Try.ntmps40
  go_wp2_with (first
    | (go_at_call 77; refine (there_yes _ g b hc).mono ?_; rintro e w' ⟨rfl, rfl⟩)
    | (at_delete; refine wpL_delete rfl _ _ rfl rfl HM.out s rfl Hs.out ?_; intro w1 hm1 hf1 _; have HM1 := Aside0.mk hm1; have HF1 := Aside0.mk hf1; clear hm1 hf1))
  go_end0
  exact ⟨rfl, ⟨blk_fr HH.out.blk HF1.out (fun e => HH.out.ne e.symm), HH.out.ne, HM1.out⟩, HF1.out⟩

/-! ### a table that is not there -/
theorem since_nil (w : World) (s : ByteArray) : Calls Try.prog 17 #[.pointer none, .string s] w fun e w' => e = .returned (.tuple #[.int .i64 0, .bool false]) ∧ w = w' := by
  go_enter Try.func17, Try.ntmps17
  go_wp2_with (go_at_call 77; refine (there_nil _).mono ?_; rintro e w' ⟨rfl, rfl⟩)
  go_ret2
  exact ⟨rfl, rfl⟩
theorem since_zero (w : World) (g : Nat) (s : ByteArray) (hc : w.cell? ⟨g, 0, none⟩ = some (.map none)) : Calls Try.prog 17 #[.pointer (some ⟨g, 0, none⟩), .string s] w fun e w' => e = .returned (.tuple #[.int .i64 0, .bool false]) ∧ w = w' := by
  go_enter Try.func17, Try.ntmps17
  go_wp2_with (go_at_call 77; refine (there_zero _ g hc).mono ?_; rintro e w' ⟨rfl, rfl⟩)
  go_ret2
  exact ⟨rfl, rfl⟩
theorem drop_nil (w : World) (s : ByteArray) : Calls Try.prog 40 #[.pointer none, .string s] w fun e w' => e = .returned (.tuple #[]) ∧ w = w' := by
  go_enter Try.func40, Try.ntmps40
  go_wp2_with (go_at_call 77; refine (there_nil _).mono ?_; rintro e w' ⟨rfl, rfl⟩)
  go_end0
  exact ⟨rfl, rfl⟩
theorem drop_zero (w : World) (g : Nat) (s : ByteArray) (hc : w.cell? ⟨g, 0, none⟩ = some (.map none)) : Calls Try.prog 40 #[.pointer (some ⟨g, 0, none⟩), .string s] w fun e w' => e = .returned (.tuple #[]) ∧ w = w' := by
  go_enter Try.func40, Try.ntmps40
  go_wp2_with (go_at_call 77; refine (there_zero _ g hc).mono ?_; rintro e w' ⟨rfl, rfl⟩)
  go_end0
  exact ⟨rfl, rfl⟩

end Go.Proofs.Ytdpchfifaidamaa.T
