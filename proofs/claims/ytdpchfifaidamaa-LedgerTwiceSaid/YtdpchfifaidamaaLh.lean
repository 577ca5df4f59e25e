/- The ledger's known case. No condition. -/
import Derived.Test.YtdpchfifaidamaaLg
namespace Go.Proofs.Ytdpchfifaidamaa.L
open Go.RowKit Go.Maps Go.Proofs.YtdpchfifaidamaaW.PrintWords Go.Proofs.Ytdpchfifaidamaa.B Go.Proofs.Ytdpchfifaidamaa.U Go.Proofs.Ytdpchfifaidamaa.PLedgerTells
set_option linter.unusedVariables false
set_option linter.unusedSimpArgs false

/-- a row that lies whole in one block. -/
theorem kd_block {α : Type} (d : Kd α) (sz : Nat) (hsz : d.sz = sz) {w : World} {b ty : Nat} {cs : Array Value} (hb : w.heap[b]? = some (.cells cs ty (0, 0))) (xs : List α) (hn : xs.length ≤ 1000000)
    (h : ∀ j p, xs[j]? = some p → ∃ c, c.length = sz ∧ d.K w p c ∧ ∀ i u, c[i]? = some u → cs[j * sz + i]? = some u) : Kd.C d w (some ⟨b, 0, none⟩) xs.length xs := by
  subst hsz
  refine ⟨rfl, by omega, fun _ => ⟨_, rfl, fun j p hp => ?_⟩⟩
  obtain ⟨c, hc, hk, hr⟩ := h j p hp
  refine ⟨c, hc, hk, fun i u hu => ?_⟩
  rw [add_plain]
  exact (blk_cell hb _).trans (by simpa using hr i u hu)
def bG : ByteArray := ⟨#[103]⟩
def bX : ByteArray := ⟨#[120]⟩
def gK : S76 := ⟨bG, 0, 3, ⟨⟨#[]⟩, bG, ⟨0, 0, 0, 0, 0⟩, [], [], true⟩, 5, 0⟩
def i1 : S135 := ⟨⟨#[103, 45, 49]⟩, bG, 2, 0, 0⟩
def i2 : S135 := ⟨⟨#[103, 45, 50]⟩, bG, 4, 0, 0⟩
def i3 : S135 := ⟨⟨#[103, 45, 51]⟩, bG, 3, 0, 0⟩
def i4 : S135 := ⟨bX, bX, 2, 0, 0⟩
theorem c_nil {α : Type} (d : Kd α) (w : World) : Kd.C d w none 0 ([] : List α) := ⟨rfl, by omega, fun h => by omega⟩
theorem getK : groupsB [gK] = true := by decide +kernel
theorem getZ : groupsB [z76] = false := by decide +kernel
theorem okL0 : OkL [] := ⟨fun i => (by simp [z83]; decide), fun i => (by simp [z83]; decide)⟩
theorem okT0 : OkT [] := ⟨fun i => (by simp [z157]; decide), fun i => (by simp [z157]; decide)⟩
theorem okA_small {g : S76} (h0 : g.f0.size ≤ 100) (h1 : g.f3.f0.size ≤ 100) (h2 : g.f3.f1.size ≤ 100) (h3 : g.f3.f3 = []) (h4 : g.f3.f4 = []) : OkA g :=
  ⟨⟨by omega, ⟨by omega, by omega, by rw [h3]; exact okL0, by rw [h4]; exact okT0⟩⟩, by rw [h3]; simp, by rw [h4]; simp⟩
theorem okA_z : OkA z76 := okA_small (by decide) (by decide) (by decide) rfl rfl
theorem okA_k : OkA gK := okA_small (by decide) (by decide) (by decide) rfl rfl
theorem okA_one {g : S76} (h : OkA g) (i : Nat) : OkA ([g].getD i z76) := by
  cases i with
  | zero => exact h
  | succ i => exact okA_z
/-- the known case's rows, after each step. -/
def R0 : List RV := [gK].map newRow
def R1 : List RV := addR [i1, i2, i3, i4] R0
def R2 : List RV := addR [i1] R1
theorem r2_eq : R2 = [⟨bG, 5, 3, 2, 15⟩] := by decide +kernel
theorem r1_eq : R1 = [⟨bG, 5, 2, 2, 10⟩] := by decide +kernel
theorem r0_eq : R0 = [⟨bG, 5, 0, 0, 0⟩] := by decide +kernel
theorem of_g : ofR R2 ⟨#[103]⟩ = ⟨bG, 5, 3, 2, 15⟩ := by decide +kernel
theorem of_x : ofR R2 ⟨#[120]⟩ = zR := by decide +kernel
theorem tot_2 : totR R2 R2.length = 15 := by decide +kernel
theorem md_32 : md 3 2 = some 4609434218613702656 := by decide +kernel
theorem md_02 : md 0 2 = some 0 := by decide +kernel
theorem kd_g {w : World} {b : Nat} (hb : w.heap[b]? = some (.cells #[.string ⟨#[103]⟩, .int .i64 0, .int .i64 3, .string ⟨#[]⟩, .string ⟨#[103]⟩, .int .i64 0, .int .i64 0, .int .i64 0, .int .i64 0, .int .i64 0, .slice none 0 0, .slice none 0 0, .bool true, .int .i64 5, .int .i64 0] 76 (0, 0))) : Kd.C k76 w (some ⟨b, 0, none⟩) 1 [gK] := by
  refine kd_block k76 15 rfl hb [gK] (by decide) (fun j p hp => ?_)
  cases j with
  | zero =>
    simp at hp
    subst hp
    exact ⟨_, rfl, k76_mk w gK (A10 := none) (c10 := 0) (Nat.le_refl _) (c_nil _ _) (A11 := none) (c11 := 0) (Nat.le_refl _) (c_nil _ _), fun i u hu => by rw [Nat.zero_mul, Nat.zero_add]; exact (Array.getElem?_toList).symm.trans hu⟩
  | succ j => simp at hp
theorem kd_z {w : World} {b : Nat} (hb : w.heap[b]? = some (.cells #[.string ⟨#[]⟩, .int .i64 0, .int .i64 0, .string ⟨#[]⟩, .string ⟨#[]⟩, .int .i64 0, .int .i64 0, .int .i64 0, .int .i64 0, .int .i64 0, .slice none 0 0, .slice none 0 0, .bool false, .int .i64 0, .int .i64 0] 76 (0, 0))) : Kd.C k76 w (some ⟨b, 0, none⟩) 1 [z76] := by
  refine kd_block k76 15 rfl hb [z76] (by decide) (fun j p hp => ?_)
  cases j with
  | zero =>
    simp at hp
    subst hp
    exact ⟨_, rfl, k76_mk w z76 (A10 := none) (c10 := 0) (Nat.le_refl _) (c_nil _ _) (A11 := none) (c11 := 0) (Nat.le_refl _) (c_nil _ _), fun i u hu => by rw [Nat.zero_mul, Nat.zero_add]; exact (Array.getElem?_toList).symm.trans hu⟩
  | succ j => simp at hp
theorem kd_1 {w : World} {b : Nat} (hb : w.heap[b]? = some (.cells #[.string ⟨#[103, 45, 49]⟩, .string ⟨#[103]⟩, .int .i64 2, .int .i64 0, .int .i64 0] 135 (0, 0))) : Kd.C k135 w (some ⟨b, 0, none⟩) 1 [i1] := by
  refine kd_block k135 5 rfl hb [i1] (by decide) (fun j p hp => ?_)
  cases j with
  | zero =>
    simp at hp
    subst hp
    exact ⟨_, rfl, k135_mk w i1, fun i u hu => by rw [Nat.zero_mul, Nat.zero_add]; exact (Array.getElem?_toList).symm.trans hu⟩
  | succ j => simp at hp
theorem kd_4 {w : World} {b : Nat} (hb : w.heap[b]? = some (.cells #[.string ⟨#[103, 45, 49]⟩, .string ⟨#[103]⟩, .int .i64 2, .int .i64 0, .int .i64 0, .string ⟨#[103, 45, 50]⟩, .string ⟨#[103]⟩, .int .i64 4, .int .i64 0, .int .i64 0, .string ⟨#[103, 45, 51]⟩, .string ⟨#[103]⟩, .int .i64 3, .int .i64 0, .int .i64 0, .string ⟨#[120]⟩, .string ⟨#[120]⟩, .int .i64 2, .int .i64 0, .int .i64 0] 135 (0, 0))) : Kd.C k135 w (some ⟨b, 0, none⟩) 4 [i1, i2, i3, i4] := by
  refine kd_block k135 5 rfl hb [i1, i2, i3, i4] (by decide) (fun j p hp => ?_)
  rcases j with _ | _ | _ | _ | j
  all_goals simp at hp
  all_goals subst hp
  · exact ⟨_, rfl, k135_mk w i1, fun i u hu => by rcases i with _ | _ | _ | _ | _ | i <;> simp at hu <;> exact hu ▸ rfl⟩
  · exact ⟨_, rfl, k135_mk w i2, fun i u hu => by rcases i with _ | _ | _ | _ | _ | i <;> simp at hu <;> exact hu ▸ rfl⟩
  · exact ⟨_, rfl, k135_mk w i3, fun i u hu => by rcases i with _ | _ | _ | _ | _ | i <;> simp at hu <;> exact hu ▸ rfl⟩
  · exact ⟨_, rfl, k135_mk w i4, fun i u hu => by rcases i with _ | _ | _ | _ | _ | i <;> simp at hu <;> exact hu ▸ rfl⟩
end Go.Proofs.Ytdpchfifaidamaa.L
