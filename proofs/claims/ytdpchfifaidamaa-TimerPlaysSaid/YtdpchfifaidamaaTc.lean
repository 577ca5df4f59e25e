/- The contract of the timer's ahead and Names: what is noted, in order. No condition. -/
import Derived.Test.YtdpchfifaidamaaTb
namespace Go.Proofs.Ytdpchfifaidamaa.T
open Go.RowKit Go.Maps Go.Proofs.YtdpchfifaidamaaW.PrintWords Go.Proofs.Ytdpchfifaidamaa.B
set_option linter.unusedVariables false
set_option linter.unusedSimpArgs false

def at0 (f : ByteArray → Option Int) (s : ByteArray) : Int := (f s).getD 0
def aheadB (f : ByteArray → Option Int) (a b : ByteArray) : Bool := if at0 f a = at0 f b then Op.bytesLess a.toList b.toList else decide (at0 f a < at0 f b)

set_option maxRecDepth 100000 in
theorem ahead_calls (w : World) (g b n : Nat) (f : ByteArray → Option Int) (s t : ByteArray) (H : TT w g b n f) (hs : s.size ≤ maxLen) (ht : t.size ≤ maxLen) :
    Calls Try.prog 79 #[.pointer (some ⟨g, 0, none⟩), .string s, .string t] w fun e w' => e = .returned (.bool (aheadB f s t)) ∧ ∃ m, w' = w.drewN m := by
  have HM := Aside0.mk H.map
  have hc : w.cell? ⟨g, 0, none⟩ = some (.map (some b)) := (blk_cell H.blk 0).trans rfl
  clear H
  have Hs := Aside0.mk hs
  have Ht := Aside0.mk ht
  clear hs ht
  have r1 : ∀ m, (Instr.lookup 65 (.map (some b)) (.string s) false).run Try.prog (w.drewN m) = .ok (.int .i64 (at0 f s)) (w.drewN m) := fun m => lookup_run (HM.out.drewN m) s Hs.out
  have r2 : ∀ m, (Instr.lookup 65 (.map (some b)) (.string t) false).run Try.prog (w.drewN m) = .ok (.int .i64 (at0 f t)) (w.drewN m) := fun m => lookup_run (HM.out.drewN m) t Ht.out
  by_cases h1 : at0 f s = at0 f t
  · have hb : (at0 f s != at0 f t) = false := by simp [h1]
    have hfin : aheadB f s t = Op.bytesLess s.toList t.toList := by unfold aheadB; rw [if_pos h1]
    have HF := Aside0.mk hfin
    clear hfin h1
    go_enter Try.func79, Try.ntmps79
    go_wp2
    go_quiet (fail)
    go_wp2
    go_ret
    exact ⟨by rw [HF.out]; rfl, _, rfl⟩
  · have hb : (at0 f s != at0 f t) = true := by simp [h1]
    have hfin : aheadB f s t = decide (at0 f s < at0 f t) := by unfold aheadB; rw [if_neg h1]
    have HF := Aside0.mk hfin
    clear hfin h1
    go_enter Try.func79, Try.ntmps79
    go_wp2
    go_quiet (fail)
    go_wp2
    all_goals
      go_ret
      exact ⟨by rw [HF.out]; rfl, _, rfl⟩

/-! ### the order -/
theorem bl_total : ∀ (x y : List UInt8), x ≠ y → Op.bytesLess x y = false → Op.bytesLess y x = true
  | [], [], h, _ => absurd rfl h
  | [], _ :: _, _, h => by simp [Op.bytesLess] at h
  | _ :: _, [], _, _ => rfl
  | a :: x, b :: y, h, hl => by
    simp only [Op.bytesLess, Bool.or_eq_false_iff, Bool.and_eq_false_iff, decide_eq_false_iff_not, beq_eq_false_iff_ne] at hl
    simp only [Op.bytesLess, Bool.or_eq_true, Bool.and_eq_true, decide_eq_true_eq, beq_iff_eq]
    obtain ⟨h1, h2⟩ := hl
    by_cases e : a = b
    · subst e
      exact .inr ⟨rfl, bl_total x y (fun e => h (by rw [e])) (h2.resolve_left (fun h => h rfl))⟩
    · refine .inl ?_
      have h1' : ¬ a.toNat < b.toNat := h1
      have e' : a.toNat ≠ b.toNat := fun h => e (UInt8.toNat_inj.1 h)
      show b.toNat < a.toNat
      omega
theorem bl_trans : ∀ (x y z : List UInt8), Op.bytesLess x y = true → Op.bytesLess y z = true → Op.bytesLess x z = true
  | _, [], _, h, _ => by rename_i x _; cases x <;> simp [Op.bytesLess] at h
  | _, _ :: _, [], _, h => by simp [Op.bytesLess] at h
  | [], _ :: _, _ :: _, _, _ => rfl
  | a :: x, b :: y, c :: z, h, h' => by
    simp only [Op.bytesLess, Bool.or_eq_true, Bool.and_eq_true, decide_eq_true_eq, beq_iff_eq] at h h' ⊢
    rcases h with h | ⟨rfl, h⟩
    · rcases h' with h' | ⟨rfl, h'⟩
      · exact .inl (by have h1 : a.toNat < b.toNat := h
                       have h2 : b.toNat < c.toNat := h'
                       show a.toNat < c.toNat
                       omega)
      · exact .inl h
    · rcases h' with h' | ⟨rfl, h'⟩
      · exact .inl h'
      · exact .inr ⟨rfl, bl_trans x y z h h'⟩
theorem toList_inj {a b : ByteArray} (h : a.toList = b.toList) : a = b := by
  have h1 : ∀ s : ByteArray, s.toList = s.data.toList := fun s => ByteArray.toList_eq s
  rw [h1, h1] at h
  exact ByteArray.ext (Array.ext' h)
theorem ahead_total {f : ByteArray → Option Int} {a b : ByteArray} (hne : a ≠ b) (h : aheadB f a b = false) : aheadB f b a = true := by
  unfold aheadB at h ⊢
  by_cases e : at0 f a = at0 f b
  · rw [if_pos e] at h
    rw [if_pos e.symm]
    exact bl_total _ _ (fun h => hne (toList_inj h)) h
  · rw [if_neg e] at h
    rw [if_neg (Ne.symm e)]
    simp at h ⊢
    omega
theorem ahead_trans {f : ByteArray → Option Int} {a b c : ByteArray} (h : aheadB f a b = true) (h' : aheadB f b c = true) : aheadB f a c = true := by
  unfold aheadB at h h' ⊢
  by_cases e : at0 f a = at0 f b
  · rw [if_pos e] at h
    by_cases e' : at0 f b = at0 f c
    · rw [if_pos e'] at h'
      rw [if_pos (e.trans e')]
      exact bl_trans _ _ _ h h'
    · rw [if_neg e'] at h'
      rw [e, if_neg e']
      exact h'
  · rw [if_neg e] at h
    by_cases e' : at0 f b = at0 f c
    · rw [← e', if_neg e]
      exact h
    · rw [if_neg e'] at h'
      simp at h h'
      rw [if_neg (by omega)]
      simp
      omega

end Go.Proofs.Ytdpchfifaidamaa.T
