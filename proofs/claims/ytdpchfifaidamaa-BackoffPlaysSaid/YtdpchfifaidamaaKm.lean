/- The walk of BackoffPlays: whatever fails, and is fine, at whatever times: answers, and what is noted, are as the document says. No condition. -/
import Derived.Test.YtdpchfifaidamaaKl
import Derived.Deep.RegionHeld3
import Derived.Deep.DeepCutAuto
import Derived.Deep.CutRange
import Derived.Deep.CutBlock
namespace Go.Proofs.Ytdpchfifaidamaa.K
open Go.RowKit Go.Maps Go.Proofs.YtdpchfifaidamaaW.PrintWords Go.Proofs.Ytdpchfifaidamaa.B
set_option linter.unusedVariables false
set_option linter.unusedSimpArgs false

structure OpK where
  kind : Int
  group : ByteArray
  now : Int
instance : Inhabited OpK := ⟨⟨0, ⟨#[]⟩, 0⟩⟩
def ROpK : Rd OpK := fun _ o cs => cs = [.int .i64 o.kind, .string o.group, .int .i64 o.now] ∧ (Lit.int .i64 o.kind).wf = true ∧ (Lit.int .i64 o.now).wf = true ∧ o.group.size ≤ maxLen
theorem cells49 : Try.prog.cellsOf 49 = 3 := by kernel_rfl
set_option maxRecDepth 100000 in
theorem opens_opk : Opens ROpK 49 := fun enc w base spare held fuel cs x h => by
  obtain ⟨xs, n, _, _, hlen, _, _⟩ := DataW.trod_struct Try.underlying49 h
  rw [cells49] at hlen
  match cs, hlen with
  | [c0, c1, c2], _ =>
    obtain ⟨k, hk, wk⟩ := opens_field Try.underlying49 h 0 0 1 rfl (opens_int Try.underlying3) cells3
    obtain ⟨l, hl, hs⟩ := opens_field Try.underlying49 h 1 1 1 rfl (opens_str Try.underlying9) cells9
    obtain ⟨m, hmn, wm⟩ := opens_field Try.underlying49 h 2 2 1 rfl (opens_int Try.underlying3) cells3
    simp only [List.drop_zero, List.drop_succ_cons, List.take_succ_cons, List.take_zero, List.cons.injEq, and_true] at hk hl hmn
    subst hk hl hmn
    exact ⟨⟨k, l, m⟩, rfl, wk, wm, hs⟩
theorem stable_opk : Stable ROpK := fun _ _ _ _ _ h => h
theorem opk_cells {w : World} {A : Option Addr} {l : List OpK} (h : SC ROpK 3 w A l) (j : Nat) (hj : j < l.length) : ∃ ad, A = some ad ∧
    w.cell? (ad.add (j * 3)) = some (.int .i64 l[j].kind) ∧ w.cell? ⟨(ad.add (j * 3)).block, (ad.add (j * 3)).off + 1, none⟩ = some (.string l[j].group) ∧
    w.cell? ⟨(ad.add (j * 3)).block, (ad.add (j * 3)).off + 2, none⟩ = some (.int .i64 l[j].now) ∧ l[j].group.size ≤ maxLen := by
  obtain ⟨ad, cs, e, hlen, hcell, hcs, w1, w2, hs⟩ := h j hj
  subst hcs
  refine ⟨ad, e, ?_, ?_, ?_, hs⟩
  · simpa using hcell 0 _ rfl
  · rw [← add_field _ _ 1 (by omega)]; exact hcell 1 _ rfl
  · rw [← add_field _ _ 2 (by omega)]; exact hcell 2 _ rfl

theorem SRow.less {w : World} {base : Nat} {v : Value} {l : List ByteArray} (h : SRow w base v l) {b : Nat} (hb : b ≤ base) : SRow w b v l := by
  rcases h with h | ⟨g, c, cur, h1, h2, r⟩
  · exact .inl h
  · exact .inr ⟨g, c, cur, h1, by omega, r⟩
theorem BT.less {w : World} {g b : Nat} {v : Value} {base n : Nat} {L : List N3} {F M R : Int} (h : BT w g b v base n L F M R) {b' : Nat} (hb : b' ≤ base) : BT w g b v b' n L F M R :=
  ⟨h.blk, h.own.less hb, h.map, Nat.le_trans hb h.base_le, h.par⟩
theorem BR.less {w : World} {g : Nat} {v : Value} {base : Nat} {L : List N3} {F M R : Int} (h : BR w g v base L F M R) {b' : Nat} (hb : b' ≤ base) : BR w g v b' L F M R :=
  ⟨h.blk, h.own.less hb, Nat.le_trans hb h.base_le⟩
theorem BR.base {w : World} {g : Nat} {v : Value} {base : Nat} {L : List N3} {F M R : Int} (h : BR w g v base L F M R) {b' : Nat} (hb : b' ≤ base) (k : Nat) (hk : v.ownBlock = some k) : b' ≤ k := Nat.le_trans hb (h.own.base_le hk)
/-- both tables say L. -/
structure PK (w wr : World) (g b gr : Nat) (v vr : Value) (n : Nat) (L : List N3) (F M R : Int) (k : Nat) : Prop where
  bt : BT wr g b v w.heap.size n L F M R
  br : BR wr gr vr w.heap.size L F M R
  ok : LOk L k
  len : n ≤ k
  fr : Below w.heap.size w wr
  g0 : w.heap.size ≤ g
  b0 : w.heap.size ≤ b
  gr0 : w.heap.size ≤ gr
section
variable {w wr w' w'' : World} {g b gr : Nat} {v vr : Value} {n : Nat} {L : List N3} {F M R : Int} {k : Nat}
theorem PK.no (h : PK w wr g b gr v vr n L F M R k) (hk : Fr no wr w') : PK w w' g b gr v vr n L F M R k :=
  ⟨h.bt.no hk, h.br.no hk, h.ok, h.len, below_fr h.fr hk (fun _ h => h.elim), h.g0, h.b0, h.gr0⟩
theorem PK.up (h : PK w wr g b gr v vr n L F M R k) : PK w wr g b gr v vr n L F M R (k + 1) := ⟨h.bt, h.br, h.ok.mono (by omega), by have := h.len; omega, h.fr, h.g0, h.b0, h.gr0⟩
theorem PK.sb (h : PK w wr g b gr v vr n L F M R k) (j : Nat) (hj : SB g b v j) : w.heap.size ≤ j := by
  rcases hj with rfl | rfl | hj
  · exact h.g0
  · exact h.b0
  · exact h.bt.own.base_le hj
theorem PK.sr (h : PK w wr g b gr v vr n L F M R k) (j : Nat) (hj : SR gr vr j) : w.heap.size ≤ j := by
  rcases hj with rfl | hj
  · exact h.gr0
  · exact h.br.own.base_le hj
/-- both tables are changed alike. -/
theorem PK.both (h : PK w wr g b gr v vr n L F M R k) {v' vr' : Value} {n' : Nat} {L' : List N3} (h1 : BT w' g b v' w.heap.size n' L' F M R) (f1 : Fr (SB g b v) wr w') (h2 : BR w'' gr vr' w.heap.size L' F M R) (f2 : Fr (SR gr vr) w' w'') (hok : LOk L' (k + 1)) (hn : n' ≤ k + 1) :
    PK w w'' g b gr v' vr' n' L' F M R (k + 1) :=
  ⟨h1.beside (h.br.beside h.bt f1) f2, h2, hok, hn, below_fr (below_fr h.fr f1 h.sb) f2 h.sr, h.g0, h.b0, h.gr0⟩
/-- a box that was there before lies apart from both. -/
theorem PK.box (h : PK w wr g b gr v vr n L F M R k) {bx : Nat} {cs : Array Value} (hb : wr.heap[bx]? = some (.cells cs 49 (0, 0))) : ¬ SB g b v bx ∧ ¬ SR gr vr bx := by
  constructor
  · rintro (e | e | e)
    · have h1 := h.bt.blk; rw [← e, hb] at h1; cases h1
    · exact h.bt.map.cells_ne hb e
    · obtain ⟨cs', hc⟩ := h.bt.own.cells e
      rw [hb] at hc; cases hc
  · rintro (e | e)
    · have h1 := h.br.blk; rw [← e, hb] at h1; cases h1
    · obtain ⟨cs', hc⟩ := h.br.own.cells e
      rw [hb] at hc; cases hc
end
theorem texts_same (w : World) (A : Option Addr) (c : Nat) (l : List ByteArray) (A' : Option Addr) (c' : Nat) (h : Kd.C Kd.string w A l.length l) (h' : Kd.C Kd.string w A' l.length l) (hl : l.length < 1000000000000) :
    Calls Try.prog 35 #[.slice A l.length c, .slice A' l.length c'] w fun e w' => e = .returned (.bool true) ∧ Fr no w w' := by
  refine (texts_calls w A c l A' c' l h h' hl).mono ?_
  rintro e w' ⟨rfl, m, rfl⟩
  exact ⟨by simp, (Fr.refl w no).drewN m⟩
end Go.Proofs.Ytdpchfifaidamaa.K
