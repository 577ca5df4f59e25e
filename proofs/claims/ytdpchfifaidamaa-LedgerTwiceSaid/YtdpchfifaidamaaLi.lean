/- The walk of the ledger's known case. No condition. -/
import Derived.Test.YtdpchfifaidamaaLh
import Derived.Deep.RegionHeld3
import Derived.Deep.DeepCutAuto
import Derived.Deep.CutRange
import Derived.Deep.CutBlock
import Derived.IntWalk
namespace Go.Proofs.Ytdpchfifaidamaa.L
open Go.RowKit Go.Maps Go.Proofs.YtdpchfifaidamaaW.PrintWords Go.Proofs.YtdpchfifaidamaaW.PrintLast Go.Proofs.Ytdpchfifaidamaa.B Go.Proofs.Ytdpchfifaidamaa.U Go.Proofs.Ytdpchfifaidamaa.PLedgerTells
set_option linter.unusedVariables false
set_option linter.unusedSimpArgs false

def oG : Obj := .cells #[.string ⟨#[103]⟩, .int .i64 0, .int .i64 3, .string ⟨#[]⟩, .string ⟨#[103]⟩, .int .i64 0, .int .i64 0, .int .i64 0, .int .i64 0, .int .i64 0, .slice none 0 0, .slice none 0 0, .bool true, .int .i64 5, .int .i64 0] 76 (0, 0)
def oZ : Obj := .cells #[.string ⟨#[]⟩, .int .i64 0, .int .i64 0, .string ⟨#[]⟩, .string ⟨#[]⟩, .int .i64 0, .int .i64 0, .int .i64 0, .int .i64 0, .int .i64 0, .slice none 0 0, .slice none 0 0, .bool false, .int .i64 0, .int .i64 0] 76 (0, 0)
def o1 : Obj := .cells #[.string ⟨#[103, 45, 49]⟩, .string ⟨#[103]⟩, .int .i64 2, .int .i64 0, .int .i64 0] 135 (0, 0)
def o4 : Obj := .cells #[.string ⟨#[103, 45, 49]⟩, .string ⟨#[103]⟩, .int .i64 2, .int .i64 0, .int .i64 0, .string ⟨#[103, 45, 50]⟩, .string ⟨#[103]⟩, .int .i64 4, .int .i64 0, .int .i64 0, .string ⟨#[103, 45, 51]⟩, .string ⟨#[103]⟩, .int .i64 3, .int .i64 0, .int .i64 0, .string ⟨#[120]⟩, .string ⟨#[120]⟩, .int .i64 2, .int .i64 0, .int .i64 0] 135 (0, 0)
theorem new_g (w : World) (b : Nat) (hb : w.heap[b]? = some oG) : Calls Try.prog 55 #[.slice (some ⟨b, 0, none⟩) 1 1] w (NewPost w R0) :=
  new_calls w (some ⟨b, 0, none⟩) 1 [gK] (kd_g hb) (Nat.le_refl _) (by decide) (okA_one okA_k) getK
theorem new_z (w : World) (b : Nat) (hb : w.heap[b]? = some oZ) : Calls Try.prog 55 #[.slice (some ⟨b, 0, none⟩) 1 1] w fun e w' => e = .returned (.tuple #[.pointer none, .int .i64 12]) ∧ Fr no w w' :=
  new_no w (some ⟨b, 0, none⟩) 1 [z76] (kd_z hb) (Nat.le_refl _) (by decide) (okA_one okA_z) getZ
theorem okR_z : OkR zR := ⟨by decide, by decide, by decide, by decide, by decide, by decide, by decide, by decide⟩
theorem okR_one {x : RV} (h : OkR x) (i : Nat) : OkR ([x].getD i zR) := by
  cases i with
  | zero => exact h
  | succ i => exact okR_z
theorem nm_one {x : RV} (h : x.name.size ≤ 100) (i : Nat) : ([x].getD i zR).name.size ≤ maxLen := by
  cases i with
  | zero => show x.name.size ≤ maxLen; simp only [maxLen]; omega
  | succ i => show zR.name.size ≤ maxLen; decide
theorem add_4 (w : World) (g : Nat) (v : Value) (base b : Nat) (h : LT w g v base R0 0) (hb : w.heap[b]? = some o4) (hne : ¬ SA g v b) :
    Calls Try.prog 57 #[.pointer (some ⟨g, 0, none⟩), .slice (some ⟨b, 0, none⟩) 4 4] w (AddPost w g v base R1 1) :=
  add_calls w g v base R0 0 (some ⟨b, 0, none⟩) 4 [i1, i2, i3, i4] h (by omega) (by decide) (by decide) (Nat.le_refl _) (fun W hf => kd_4 (blk_fr hb hf hne))
    (fun i => by rcases i with _ | _ | _ | _ | i <;> exact of_decide_eq_true (by rfl)) (by rw [r0_eq]; exact nm_one (by decide)) (by rw [r0_eq]; exact okR_one ⟨by decide, by decide, by decide, by decide, by decide, by decide, by decide, by decide⟩)
theorem add_1 (w : World) (g : Nat) (v : Value) (base b : Nat) (h : LT w g v base R1 1) (hb : w.heap[b]? = some o1) (hne : ¬ SA g v b) :
    Calls Try.prog 57 #[.pointer (some ⟨g, 0, none⟩), .slice (some ⟨b, 0, none⟩) 1 1] w (AddPost w g v base R2 2) :=
  add_calls w g v base R1 1 (some ⟨b, 0, none⟩) 1 [i1] h (by omega) (by decide) (by decide) (Nat.le_refl _) (fun W hf => kd_1 (blk_fr hb hf hne))
    (fun i => by rcases i with _ | i <;> exact of_decide_eq_true (by rfl)) (by rw [r1_eq]; exact nm_one (by decide)) (by rw [r1_eq]; exact okR_one ⟨by decide, by decide, by decide, by decide, by decide, by decide, by decide, by decide⟩)
/-- what the known case's table says. -/
structure Ends (w : World) (g : Nat) (v : Value) (base : Nat) : Prop where
  lt : LT w g v base R2 2
theorem Ends.sum_g {w W : World} {g : Nat} {v : Value} {base : Nat} (h : Ends w g v base) (hf : Fr no w W) : Calls Try.prog 60 #[.pointer (some ⟨g, 0, none⟩), .string ⟨#[103]⟩] W fun e w' => e = .returned (.int .i64 15) ∧ Fr no W w' := by
  have := sum_calls W g v base R2 2 ⟨#[103]⟩ (h.lt.no hf) (by decide)
  rw [of_g] at this
  exact this
theorem Ends.sum_x {w W : World} {g : Nat} {v : Value} {base : Nat} (h : Ends w g v base) (hf : Fr no w W) : Calls Try.prog 60 #[.pointer (some ⟨g, 0, none⟩), .string ⟨#[120]⟩] W fun e w' => e = .returned (.int .i64 0) ∧ Fr no W w' := by
  have := sum_calls W g v base R2 2 ⟨#[120]⟩ (h.lt.no hf) (by decide)
  rw [of_x] at this
  exact this
theorem Ends.peak_g {w W : World} {g : Nat} {v : Value} {base : Nat} (h : Ends w g v base) (hf : Fr no w W) : Calls Try.prog 62 #[.pointer (some ⟨g, 0, none⟩), .string ⟨#[103]⟩] W fun e w' => e = .returned (.int .i64 2) ∧ Fr no W w' := by
  have := peak_calls W g v base R2 2 ⟨#[103]⟩ (h.lt.no hf) (by decide)
  rw [of_g] at this
  exact this
theorem Ends.mean_g {w W : World} {g : Nat} {v : Value} {base : Nat} (h : Ends w g v base) (hf : Fr no w W) : Calls Try.prog 64 #[.pointer (some ⟨g, 0, none⟩), .string ⟨#[103]⟩] W fun e w' => e = .returned (.float .f64 4609434218613702656) ∧ Fr no W w' :=
  mean_calls W g v base R2 2 ⟨#[103]⟩ (h.lt.no hf) (by decide) (by decide) 3 _ (by rw [of_g]; rfl) md_32
theorem Ends.mean_x {w W : World} {g : Nat} {v : Value} {base : Nat} (h : Ends w g v base) (hf : Fr no w W) : Calls Try.prog 64 #[.pointer (some ⟨g, 0, none⟩), .string ⟨#[120]⟩] W fun e w' => e = .returned (.float .f64 0) ∧ Fr no W w' :=
  mean_calls W g v base R2 2 ⟨#[120]⟩ (h.lt.no hf) (by decide) (by decide) 0 _ (by rw [of_x]; rfl) md_02
theorem Ends.total {w W : World} {g : Nat} {v : Value} {base : Nat} (h : Ends w g v base) (hf : Fr no w W) : Calls Try.prog 66 #[.pointer (some ⟨g, 0, none⟩)] W fun e w' => e = .returned (.int .i64 15) ∧ Fr no W w' := by
  have := total_calls W g v base R2 2 (h.lt.no hf) (by decide) (by rw [r2_eq]; intro i; exact ⟨(okR_one (x := ⟨bG, 5, 3, 2, 15⟩) ⟨by decide, by decide, by decide, by decide, by decide, by decide, by decide, by decide⟩ i).s0, (okR_one (x := ⟨bG, 5, 3, 2, 15⟩) ⟨by decide, by decide, by decide, by decide, by decide, by decide, by decide, by decide⟩ i).s1⟩)
  rw [tot_2] at this
  exact this
theorem Ends.ticks {w W : World} {g : Nat} {v : Value} {base : Nat} (h : Ends w g v base) (hf : Fr no w W) : Calls Try.prog 68 #[.pointer (some ⟨g, 0, none⟩)] W fun e w' => e = .returned (.int .i64 2) ∧ Fr no W w' :=
  (ticks_calls W g v base R2 2 (h.lt.no hf)).mono fun e w' h => ⟨h.1, h.2 ▸ Fr.refl _ _⟩
def meanOf (s : ByteArray) : Nat := if s = ⟨#[103]⟩ then 4609434218613702656 else 0
theorem mean_g' : meanOf ⟨#[103]⟩ = 4609434218613702656 := by decide
theorem mean_x' : meanOf ⟨#[120]⟩ = 0 := by decide
theorem sum_g' : (ofR R2 ⟨#[103]⟩).sum = 15 := by rw [of_g]
theorem sum_x' : (ofR R2 ⟨#[120]⟩).sum = 0 := by rw [of_x]; rfl
theorem Ends.sum {w W : World} {g : Nat} {v : Value} {base : Nat} (h : Ends w g v base) (hf : Fr no w W) (s : ByteArray) : Calls Try.prog 60 #[.pointer (some ⟨g, 0, none⟩), .string s] W fun e w' => e = .returned (.int .i64 (ofR R2 s).sum) ∧ Fr no W w' :=
  sum_calls W g v base R2 2 s (h.lt.no hf) (by decide)
theorem Ends.mean {w W : World} {g : Nat} {v : Value} {base : Nat} (h : Ends w g v base) (hf : Fr no w W) (s : ByteArray) (hs : s = ⟨#[103]⟩ ∨ s = ⟨#[120]⟩) : Calls Try.prog 64 #[.pointer (some ⟨g, 0, none⟩), .string s] W fun e w' => e = .returned (.float .f64 (meanOf s)) ∧ Fr no W w' := by
  rcases hs with rfl | rfl
  · rw [mean_g']; exact h.mean_g hf
  · rw [mean_x']; exact h.mean_x hf
theorem ord_a : FloatKind.f64.format.order 4609434218613702656 4609434218613702656 = some .eq := by decide +kernel
theorem ord_0 : FloatKind.f64.format.order 0 0 = some .eq := by decide +kernel
set_option maxRecDepth 100000 in
set_option maxHeartbeats 4000000 in
theorem known_walk (w : World) : Calls Try.prog 54 #[] w fun e w' => e = .returned (.bool true) ∧ Fr no w w' := by
  have hu76 := Try.underlying76
  have hu135 := Try.underlying135
  have hu96 := Try.underlying96
  have hba := heap_alloc_new w oG
  go_enter Try.func54, Try.ntmps54
  go_upto_region 3 with (go_at_call 55; refine (new_g _ _ hba).mono ?_; rintro e w1 ⟨g, v, rfl, hlt, hf, hg⟩; have HLT := Aside0.mk hlt; have HF := Aside0.mk (((Fr.refl w no).alloc oG).then_ hf (fun _ h => .inl h)); have HG := Aside0.mk (Nat.le_trans ((Fr.refl w no).alloc oG).size hg); clear hlt hf hg)
  clear hba
  go_upto_region 4 with (go_at_call 55; refine (new_z _ _ (heap_alloc_new _ _)).mono ?_; rintro e w2 ⟨rfl, hf⟩; have HF2 := Aside0.mk (((Fr.refl w1 no).alloc oZ).then_ hf (fun _ h => .inl h)); clear hf)
  have HT2 := Aside0.mk (HLT.out.no HF2.out)
  have HFA := Aside0.mk (HF.out.then_ HF2.out (fun _ h => .inl h))
  have HS2 := Aside0.mk (show (w2.alloc o1).heap.size = w2.heap.size + 1 from Array.size_push ..)
  have HK1 := Aside0.mk (show ((w2.alloc o1).alloc o4).heap[w2.heap.size]? = some o1 from blk_fr (heap_alloc_new w2 o1) ((Fr.refl _ no).alloc o4) (fun h => h))
  have HK4 := Aside0.mk (show ((w2.alloc o1).alloc o4).heap[w2.heap.size + 1]? = some o4 from by rw [← HS2.out]; exact heap_alloc_new _ _)
  have HN1 := Aside0.mk (show ¬ SA g v w2.heap.size from fun e => by have := HT2.out.sa_lt _ e; omega)
  have HN4 := Aside0.mk (show ¬ SA g v (w2.heap.size + 1) from fun e => by have := HT2.out.sa_lt _ e; omega)
  have HT4 := Aside0.mk (HT2.out.no (((Fr.refl w2 no).alloc o1).alloc o4))
  go_upto_region 9 with (go_at_call 57; refine (add_4 _ g v _ _ HT4.out HK4.out HN4.out).mono ?_; rintro e w5 ⟨rfl, hlt, hf⟩; have HT5 := Aside0.mk hlt; have HF5 := Aside0.mk hf; clear hlt hf)
  have HK5 := Aside0.mk (blk_fr HK1.out HF5.out HN1.out)
  go_upto_region 10 with (go_at_call 57; refine (add_1 _ g v _ _ HT5.out HK5.out HN1.out).mono ?_; rintro e w6 ⟨rfl, hlt, hf⟩; have HT6 := Aside0.mk hlt; have HF6 := Aside0.mk hf; clear hlt hf)
  have HE := Aside0.mk (Ends.mk HT6.out)
  have HSA : ∀ k, SA g v k → w.heap.size ≤ k := fun k hk => by
    rcases hk with rfl | hk
    · exact HG.out
    · exact Nat.le_trans ((Fr.refl w no).alloc oG).size (HT4.out.own.base_le hk)
  have HW := Aside0.mk (show Fr no w w6 from (((HFA.out.then_ (((Fr.refl w2 no).alloc o1).alloc o4) (fun _ h => .inl h)).then_ HF5.out (fun k hk => .inr (HSA k hk))).then_ HF6.out (fun k hk => .inr (HSA k hk))))
  have HZ := Aside0.mk (Fr.refl w6 no)
  have hoa := ord_a
  have ho0 := ord_0
  clear HSA
  go_wp2_with (first
    | (go_at_call 60; refine (HE.out.sum HZ.out _).mono ?_; rintro e w7 ⟨rfl, hf⟩; (first | rw [sum_g'] | rw [sum_x']); have HZ := Aside0.mk (HZ.out.then_ hf (fun _ h => .inl h)); clear hf)
    | (go_at_call 62; refine (HE.out.peak_g HZ.out).mono ?_; rintro e w7 ⟨rfl, hf⟩; have HZ := Aside0.mk (HZ.out.then_ hf (fun _ h => .inl h)); clear hf)
    | (go_at_call 64; refine (HE.out.mean HZ.out _ (by decide)).mono ?_; rintro e w7 ⟨rfl, hf⟩; (first | rw [mean_g'] | rw [mean_x']); have HZ := Aside0.mk (HZ.out.then_ hf (fun _ h => .inl h)); clear hf)
    | (go_at_call 66; refine (HE.out.total HZ.out).mono ?_; rintro e w7 ⟨rfl, hf⟩; have HZ := Aside0.mk (HZ.out.then_ hf (fun _ h => .inl h)); clear hf)
    | (go_at_call 68; refine (HE.out.ticks HZ.out).mono ?_; rintro e w7 ⟨rfl, hf⟩; have HZ := Aside0.mk (HZ.out.then_ hf (fun _ h => .inl h)); clear hf))
  go_ret
  exact ⟨rfl, HW.out.then_ HZ.out (fun _ h => .inl h)⟩
end Go.Proofs.Ytdpchfifaidamaa.L
