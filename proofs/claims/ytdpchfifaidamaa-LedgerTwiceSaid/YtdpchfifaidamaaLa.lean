/- The ledger's rows: what they are in memory; one row takes machines of a tick (more). No condition. -/
import Derived.Test.YtdpchfifaidamaaB4
import Derived.IntWalk
import Derived.StillTailTactics
import Derived.BigQuiet
import Derived.Deep.DeepCutAuto
import Derived.Deep.CutRange
import Derived.Deep.CutBlock
namespace Go.Proofs.Ytdpchfifaidamaa.L
open Go.RowKit Go.Maps Go.Proofs.YtdpchfifaidamaaW.PrintWords Go.Proofs.Ytdpchfifaidamaa.B
set_option linter.unusedVariables false
set_option linter.unusedSimpArgs false

/-- a store into an element of a row of the call's own. -/
theorem own_setE {α : Type} {E : ET α} {w : World} {base gb c : Nat} {L : List α} (HO : EOwn E w base (.slice (some ⟨gb, 0, none⟩) L.length c) L) (k : Nat) (hk : k < L.length) (i : Nat) (hi : i < E.sz) (x : α) (u : Value)
    (hx : ∀ j, (E.cells x)[j]? = if j = i then some u else (E.cells L[k])[j]?) : EOwn E (w.setCell ⟨gb, k * E.sz + i, none⟩ u) base (.slice (some ⟨gb, 0, none⟩) L.length c) (L.set k x) := by
  have hlen : (L.set k x).length = L.length := List.length_set
  rcases HO.2 with ⟨he, hn⟩ | ⟨g', cap, cur, he, hb, hh, hnc, hcm, hcs, htake⟩
  · omega
  · injection he with e1 e2 e3
    injection e1 with e1
    injection e1 with e1
    subst e1 e3
    have hblk := blk_set hh (k * E.sz + i) u
    refine ⟨by rw [flat_len, hlen], .inr ⟨gb, c, _, by rw [hlen], hb, hblk, by rw [hlen]; exact hnc, hcm, by simpa using hcs, ?_⟩⟩
    rw [hlen]
    apply List.ext_getElem?
    intro j
    have hz := E.pos
    rcases Nat.lt_or_ge j (L.length * E.sz) with hj | hj
    · have hq : j / E.sz < L.length := Nat.div_lt_of_lt_mul (by rw [Nat.mul_comm]; exact hj)
      have hm : j % E.sz < E.sz := Nat.mod_lt _ hz
      have hjj : j / E.sz * E.sz + j % E.sz = j := by rw [Nat.mul_comm]; exact Nat.div_add_mod j E.sz
      have h2 := flat_get (E := E) (L.set k x) (j / E.sz) (j % E.sz) (by rw [hlen]; exact hq) hm
      have h1 := flat_get (E := E) L (j / E.sz) (j % E.sz) hq hm
      rw [hjj] at h1 h2
      rw [h2]
      rw [← htake] at h1
      rw [List.getElem?_take_of_lt (by exact hj)] at h1 ⊢
      simp only [Array.toList_setIfInBounds, List.getElem?_set]
      by_cases hqk : j / E.sz = k
      · have hs : (L.set k x)[j / E.sz]'(by rw [hlen]; exact hq) = x := by simp [hqk]
        rw [hs, hx]
        by_cases hmi : j % E.sz = i
        · have hkj : k * E.sz + i = j := by rw [← hqk, ← hmi]; exact hjj
          have hcs' : cur.toList.length = c * E.sz := by rw [Array.length_toList]; exact hcs
          have hjc : j < c * E.sz := Nat.lt_of_lt_of_le hj (Nat.mul_le_mul_right _ hnc)
          rw [if_pos hkj, if_pos hmi, if_pos (by rw [hcs', hkj]; exact hjc)]
        · have hkj : ¬ k * E.sz + i = j := by
            intro e
            apply hmi
            rw [← e, Nat.mul_comm, Nat.mul_add_mod, Nat.mod_eq_of_lt hi]
          rw [if_neg hkj, if_neg hmi, h1]
          simp [hqk]
      · have hs : (L.set k x)[j / E.sz]'(by rw [hlen]; exact hq) = L[j / E.sz] := by
          rw [List.getElem_set]
          rw [if_neg (fun e => hqk e.symm)]
        have hkj : ¬ k * E.sz + i = j := by
          intro e
          apply hqk
          rw [← e, Nat.mul_comm, Nat.mul_add_div hz, Nat.div_eq_of_lt hi, Nat.add_zero]
        rw [hs, if_neg hkj, h1]
    · exact (List.getElem?_eq_none (Nat.le_trans (List.length_take_le _ _) hj)).trans (List.getElem?_eq_none (by rw [flat_len, hlen]; exact hj)).symm

structure RV where
  name : ByteArray
  price : Int
  all : Int
  peak : Int
  sum : Int
deriving DecidableEq
instance : Inhabited RV := ⟨⟨⟨#[]⟩, 0, 0, 0, 0⟩⟩
def E137 : ET RV where
  s := 101
  e := 137
  sz := 5
  bytes := 48
  zero := .agg #[.string ⟨#[]⟩, .int .i64 0, .int .i64 0, .int .i64 0, .int .i64 0]
  cells := fun a => [.string a.name, .int .i64 a.price, .int .i64 a.all, .int .i64 a.peak, .int .i64 a.sum]
  len := fun _ => rfl
  one := fun a u hu => by simp at hu; rcases hu with rfl | rfl | rfl | rfl | rfl <;> rfl
  under := Try.underlying101
  info := by kernel_rfl
  zs := rfl
  pos := by decide
  bpos := by decide
/-- the sum of n machines more. -/
def sumN (p : Int) : Nat → Int → Int
  | 0, s => s
  | n + 1, s => min (sumN p n s + p) 1125899906842624
theorem sumN_bd {p s : Int} (hp : 0 ≤ p) (hs : 0 ≤ s ∧ s ≤ 1125899906842624) : ∀ n, 0 ≤ sumN p n s ∧ sumN p n s ≤ 1125899906842624
  | 0 => hs
  | n + 1 => by have := sumN_bd hp hs n; unfold sumN; omega
def moreR (x : RV) (n : Nat) : RV := ⟨x.name, x.price, x.all + n, max x.peak n, sumN x.price n x.sum⟩
structure OkR (x : RV) : Prop where
  p0 : 0 ≤ x.price
  p1 : x.price ≤ 1125899906842624
  a0 : 0 ≤ x.all
  a1 : x.all ≤ 1125899906842624
  k0 : 0 ≤ x.peak
  k1 : x.peak ≤ 1125899906842624
  s0 : 0 ≤ x.sum
  s1 : x.sum ≤ 1125899906842624
theorem rv_cells {w : World} {base gb c n : Nat} {L : List RV} (h : EOwn E137 w base (.slice (some ⟨gb, 0, none⟩) n c) L) (k : Nat) (hk : k < L.length) :
    w.cell? ⟨gb, k * 5, none⟩ = some (.string L[k].name) ∧ w.cell? ⟨gb, k * 5 + 1, none⟩ = some (.int .i64 L[k].price) ∧ w.cell? ⟨gb, k * 5 + 2, none⟩ = some (.int .i64 L[k].all) ∧ w.cell? ⟨gb, k * 5 + 3, none⟩ = some (.int .i64 L[k].peak) ∧ w.cell? ⟨gb, k * 5 + 4, none⟩ = some (.int .i64 L[k].sum) := by
  obtain ⟨ad, e, hc⟩ := h.er k hk
  cases e
  have f : ∀ i u, (E137.cells L[k])[i]? = some u → w.cell? ⟨gb, k * 5 + i, none⟩ = some u := fun i u hu => by
    have := hc i u hu
    rw [add_plain] at this
    simpa [E137] using this
  exact ⟨f 0 _ rfl, f 1 _ rfl, f 2 _ rfl, f 3 _ rfl, f 4 _ rfl⟩
structure MI (w wr : World) (base gb c : Nat) (L : List RV) (k : Nat) (x : RV) : Prop where
  own : EOwn E137 wr base (.slice (some ⟨gb, 0, none⟩) L.length c) (L.set k x)
  fr : Fr (fun j => j = gb) w wr
theorem MI.set {w wr : World} {base gb c : Nat} {L : List RV} {k : Nat} {x : RV} (h : MI w wr base gb c L k x) (hk : k < L.length) (i : Nat) (hi : i < 5) (y : RV) (u : Value)
    (hx : ∀ j, (E137.cells y)[j]? = if j = i then some u else (E137.cells x)[j]?) : MI w (wr.setCell ⟨gb, k * 5 + i, none⟩ u) base gb c L k y := by
  refine ⟨?_, h.fr.then_ ((Fr.refl wr (fun j => j = gb)).setCell (p := ⟨gb, k * 5 + i, none⟩) (.inl rfl) u) (fun j hj => .inl hj)⟩
  have h0 : EOwn E137 wr base (.slice (some ⟨gb, 0, none⟩) (L.set k x).length c) (L.set k x) := by rw [List.length_set]; exact h.own
  have h1 := own_setE h0 k (by rw [List.length_set]; exact hk) i hi y u (fun j => by rw [List.getElem_set_self]; exact hx j)
  rw [List.set_set, List.length_set] at h1
  exact h1
theorem MI.drew {w wr : World} {base gb c : Nat} {L : List RV} {k : Nat} {x : RV} (h : MI w wr base gb c L k x) : MI w wr.drew base gb c L k x := ⟨h.own, h.fr.drew⟩
theorem MI.cells {w wr : World} {base gb c : Nat} {L : List RV} {k : Nat} {x : RV} (h : MI w wr base gb c L k x) (hk : k < L.length) :
    wr.cell? ⟨gb, k * 5, none⟩ = some (.string x.name) ∧ wr.cell? ⟨gb, k * 5 + 1, none⟩ = some (.int .i64 x.price) ∧ wr.cell? ⟨gb, k * 5 + 2, none⟩ = some (.int .i64 x.all) ∧ wr.cell? ⟨gb, k * 5 + 3, none⟩ = some (.int .i64 x.peak) ∧ wr.cell? ⟨gb, k * 5 + 4, none⟩ = some (.int .i64 x.sum) := by
  have := rv_cells h.own k (by rw [List.length_set]; exact hk)
  simpa using this
theorem MI.frozen {w wr : World} {base gb c : Nat} {L : List RV} {k : Nat} {x : RV} (h : MI w wr base gb c L k x) (i : Nat) : wr.frozen? ⟨gb, i, none⟩ = false := by
  obtain ⟨cs, hcs⟩ := h.own.cells (k := gb) rfl
  exact blk_frozen hcs _
def MorePost (w : World) (base gb c : Nat) (L : List RV) (k : Nat) (x : RV) (e : Ending) (w' : World) : Prop := e = .returned (.tuple #[]) ∧ MI w w' base gb c L k x
set_option maxRecDepth 100000 in
set_option maxHeartbeats 2000000 in
theorem more_calls (w : World) (base gb c : Nat) (L : List RV) (h : EOwn E137 w base (.slice (some ⟨gb, 0, none⟩) L.length c) L) (k : Nat) (hk : k < L.length) (n : Nat) (hn : n ≤ 1000000) (hx : OkR L[k]) :
    Calls Try.prog 99 #[.pointer (some ⟨gb, k * 5, none⟩), .int .i64 (n : Nat)] w (MorePost w base gb c L k (moreR L[k] n)) := by
  have hu137 := Try.underlying137
  obtain ⟨x, hxx⟩ : ∃ x, x = L[k] := ⟨_, rfl⟩
  have HM := Aside0.mk (show MI w w base gb c L k x from ⟨by rw [hxx, List.set_getElem_self]; exact h, Fr.refl _ _⟩)
  rw [← hxx] at hx ⊢
  have HK := Aside0.mk hk
  have HX := Aside0.mk hx
  obtain ⟨hc0, hc1, hc2, hc3, hc4⟩ := HM.out.cells hk
  have hz2 := HM.out.frozen (k * 5 + 2)
  have hz3 := HM.out.frozen (k * 5 + 3)
  have hs1 : IntKind.i64.wrap (x.all + n) = x.all + n := IntWalk.i64_in _ (by have := hx.a0; have := hx.a1; omega)
  clear hxx h hx
  obtain ⟨y, hy⟩ : ∃ y : RV, y = ⟨x.name, x.price, x.all + n, max x.peak n, x.sum⟩ := ⟨_, rfl⟩
  have HY := Aside0.mk hy
  clear hy
  go_enter Try.func99, Try.ntmps99
  go_upto_region 1 with fail
  go_cut [] from 4 to 20 (fun wd => Aside0 (MI w wd base gb c L k y))
  case first =>
    have h1 := HM.out.set HK.out 2 (by omega) ⟨x.name, x.price, x.all + n, x.peak, x.sum⟩ (.int .i64 (x.all + n)) (fun j => by
      match j with
      | 0 => rfl
      | 1 => rfl
      | 2 => rfl
      | 3 => rfl
      | 4 => rfl
      | n + 5 => rfl)
    have H1 := Aside0.mk h1
    clear h1
    go_wp2
    all_goals
      go_meet
      have h2 := H1.out.set HK.out 3 (by omega) y (.int .i64 (max x.peak n)) (fun j => by
        rw [HY.out]
        match j with
        | 0 => rfl
        | 1 => rfl
        | 2 => rfl
        | 3 => rfl
        | 4 => rfl
        | n + 5 => rfl)
      refine ⟨?_⟩
      first
        | exact h2
        | (have e : max x.peak n = (n : Int) := by omega
           rw [e] at h2; exact h2)
        | (have e : max x.peak n = x.peak := by omega
           rw [e] at h2; exact h2)
  case rest =>
  clear HM hc0 hc1 hc2 hc3 hc4 hz2 hz3 hs1
  go_wp2
  go_loopw [22] (fun v22 wr => ∃ j : Nat, j ≤ n ∧ v22 = .int .i64 j ∧ Aside0 (MI w wr base gb c L k ⟨x.name, x.price, x.all + n, max x.peak n, sumN x.price j x.sum⟩)) (fun v22 _ => n - (intOf v22).toNat)
  case atStart => exact ⟨0, by omega, rfl, ⟨by have := hcut.out; rw [HY.out] at this; exact this⟩⟩
  case round =>
    obtain ⟨j, hj, rfl, HI⟩ := hrel
    by_cases hlt : j < n
    · obtain ⟨-, hd1, -, -, hd4⟩ := HI.out.cells HK.out
      have hzf := HI.out.frozen (k * 5 + 4)
      have hbd := sumN_bd HX.out.p0 ⟨HX.out.s0, HX.out.s1⟩ j
      obtain ⟨t, ht⟩ : ∃ t, t = sumN x.price j x.sum := ⟨_, rfl⟩
      obtain ⟨p, hp⟩ : ∃ p, p = x.price := ⟨_, rfl⟩
      have HT := Aside0.mk ht
      have HP := Aside0.mk hp
      have hpb : 0 ≤ p ∧ p ≤ 1125899906842624 := by rw [hp]; exact ⟨HX.out.p0, HX.out.p1⟩
      simp only [← ht] at hd4 hbd
      simp only [← hp] at hd1
      obtain ⟨hb1, hb2⟩ := hbd
      obtain ⟨hb3, hb4⟩ := hpb
      have hs1 : IntKind.i64.wrap (t + p) = t + p := IntWalk.i64_in _ (by omega)
      have HN := Aside0.mk (show sumN x.price (j + 1) x.sum = min (t + p) 1125899906842624 from by rw [ht, hp]; rfl)
      clear ht hp
      go_upto_region 4 with fail
      go_still_tail 13, (by kernel_rfl)
      change wpList _ _ _ _ _ wr.drew
      go_wp2
      all_goals
        have h2 := (HI.out.set HK.out 4 (by omega) ⟨x.name, x.price, x.all + n, max x.peak n, sumN x.price (j + 1) x.sum⟩ (.int .i64 (sumN x.price (j + 1) x.sum)) (fun j => by
          match j with
          | 0 => rfl
          | 1 => rfl
          | 2 => rfl
          | 3 => rfl
          | 4 => rfl
          | n + 5 => rfl)).drew
        have H2 := Aside0.mk h2
        clear h2
        go_roundw
        case rel =>
          refine ⟨j + 1, by omega, by go_num, ⟨?_⟩⟩
          have h3 := H2.out
          rw [HN.out] at h3 ⊢
          have e : min (t + p) 1125899906842624 = (if 1125899906842624 < t + p then 1125899906842624 else t + p) := by split <;> omega
          rw [e] at h3 ⊢
          exact h3
        case measure => simp [intOf]; omega
    · obtain rfl : j = n := by omega
      go_wp2
      go_end0
      exact ⟨rfl, HI.out⟩
end Go.Proofs.Ytdpchfifaidamaa.L
