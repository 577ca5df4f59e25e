/- The reference's Fail of a group that is noted. No condition. -/
import Derived.Test.YtdpchfifaidamaaKd
import Derived.Deep.DeepCutAuto
import Derived.Deep.CutRange
namespace Go.Proofs.Ytdpchfifaidamaa.K
open Go.RowKit Go.Maps Go.Proofs.YtdpchfifaidamaaW.PrintWords Go.Proofs.Ytdpchfifaidamaa.B
set_option linter.unusedVariables false
set_option linter.unusedSimpArgs false

def newLen (F M R : Int) (x : N3) (now : Int) : Int := if R ≤ now - x.til then F else min (2 * x.len) M
def newNote (F M R : Int) (x : N3) (now : Int) : N3 := ⟨x.group, newLen F M R x now, max x.til (now + newLen F M R x now)⟩
structure Okn (x : N3) : Prop where
  sz : x.group.size ≤ maxLen
  l0 : 0 ≤ x.len
  l1 : x.len ≤ 1099511627776
  t0 : 0 ≤ x.til
  t1 : x.til ≤ 2199023255552
theorem newLen_ok {F M R : Int} (hP : Par F M R) {x : N3} (hx : Okn x) (now : Int) : 0 ≤ newLen F M R x now ∧ newLen F M R x now ≤ 1099511627776 := by
  have := hP.f1; have := hP.fm; have := hP.m1; have := hx.l0; have := hx.l1
  unfold newLen
  split <;> omega
theorem own_set {w : World} {base gb c : Nat} {L : List N3} (HO : EOwn E120 w base (.slice (some ⟨gb, 0, none⟩) L.length c) L) (k : Nat) (hk : k < L.length) (i : Nat) (hi : i < 3) (x : N3) (u : Value)
    (hx : ∀ j, (E120.cells x)[j]? = if j = i then some u else (E120.cells L[k])[j]?) : EOwn E120 (w.setCell ⟨gb, k * 3 + i, none⟩ u) base (.slice (some ⟨gb, 0, none⟩) L.length c) (L.set k x) := by
  have hlen : (L.set k x).length = L.length := List.length_set
  rcases HO.2 with ⟨he, hn⟩ | ⟨g', cap, cur, he, hb, hh, hnc, hcm, hcs, htake⟩
  · omega
  · injection he with e1 e2 e3
    injection e1 with e1
    injection e1 with e1
    subst e1 e3
    have hblk := blk_set hh (k * 3 + i) u
    refine ⟨by rw [flat_len, hlen], .inr ⟨gb, c, _, by rw [hlen], hb, hblk, by rw [hlen]; exact hnc, hcm, by simpa using hcs, ?_⟩⟩
    rw [hlen]
    apply List.ext_getElem?
    intro j
    rcases Nat.lt_or_ge j (L.length * 3) with hj | hj
    · have hq : j / 3 < L.length := by omega
      have hm : j % 3 < 3 := by omega
      have hjj : j / 3 * 3 + j % 3 = j := by omega
      have h2 := flat_get (E := E120) (L.set k x) (j / 3) (j % 3) (by rw [hlen]; exact hq) hm
      have h1 := flat_get (E := E120) L (j / 3) (j % 3) hq hm
      change ((L.set k x).flatMap E120.cells)[j / 3 * 3 + j % 3]? = _ at h2
      change (L.flatMap E120.cells)[j / 3 * 3 + j % 3]? = _ at h1
      rw [hjj] at h1 h2
      rw [h2]
      rw [← htake] at h1
      rw [List.getElem?_take_of_lt (by exact hj)] at h1 ⊢
      simp only [Array.toList_setIfInBounds, List.getElem?_set]
      by_cases hqk : j / 3 = k
      · have hs : (L.set k x)[j / 3]'(by rw [hlen]; exact hq) = x := by simp [hqk]
        rw [hs, hx]
        by_cases hmi : j % 3 = i
        · have hkj : k * 3 + i = j := by omega
          have hcs' : cur.toList.length = c * 3 := by rw [Array.length_toList]; exact hcs
          rw [if_pos hkj, if_pos hmi, if_pos (by rw [hcs']; omega)]
        · rw [if_neg (by omega), if_neg hmi, h1]
          simp [hqk]
      · have hs : (L.set k x)[j / 3]'(by rw [hlen]; exact hq) = L[j / 3] := by
          rw [List.getElem_set]
          rw [if_neg (fun e => hqk e.symm)]
        rw [hs, if_neg (by omega), h1]
    · exact (List.getElem?_eq_none (Nat.le_trans (List.length_take_le _ _) hj)).trans (List.getElem?_eq_none (by rw [flat_len, hlen]; exact hj)).symm


theorem int3 {F M R : Int} {x : N3} {now : Int} (y : N3) (h1 : y.group = x.group) (h2 : y.len = newLen F M R x now) (h3 : y.til = max x.til (now + newLen F M R x now)) : y = newNote F M R x now := by
  cases y; simp only at h1 h2 h3; subst h1 h2 h3; rfl
set_option maxRecDepth 100000 in
set_option maxHeartbeats 1000000 in
theorem rfail_old (w : World) (g : Nat) (v : Value) (base : Nat) (L : List N3) (F M R : Int) (s : ByteArray) (now : Int) (h : BR w g v base L F M R) (hP : Par F M R) (hL : L.length < 1000000000) (ht : timeB now = true) (k : Nat) (hk : k < L.length) (hp : place3 L s = k) (hn : Okn L[k]) :
    Calls Try.prog 24 #[.pointer (some ⟨g, 0, none⟩), .string s, .int .i64 now] w (RPost w g v base (L.set k (newNote F M R L[k] now)) F M R (.int .i64 (newLen F M R L[k] now))) := by
  have HH := Aside0.mk h
  have HT := Aside0.mk ht
  have HB := Aside0.mk h.blk
  obtain ⟨hc0, hc1, hc2, hc3⟩ := h.cell
  obtain ⟨A, c, hv, hlc, hcm, hr⟩ := h.own.form
  subst hv
  obtain ⟨ad, e, hx0, hx1, hx2⟩ := n3_cells hr k hk
  subst e
  have hor : ∃ gb, ad = ⟨gb, 0, none⟩ := by
    rcases h.own.2 with ⟨he, hn⟩ | ⟨g', cap, cur, he, _⟩
    · omega
    · injection he with e1 e2 e3
      injection e1 with e1
      exact ⟨g', e1⟩
  obtain ⟨gb, had⟩ := hor
  have HAD := Aside0.mk had
  have hlen := newLen_ok hP hn now
  obtain ⟨x, hx⟩ : ∃ x, x = L[k] := ⟨_, rfl⟩
  rw [← hx] at hx0 hx1 hx2 hn hlen ⊢
  have HX := Aside0.mk hx
  have HP := Aside0.mk hp
  have HK := Aside0.mk hk
  have hkl : (k : Int) < L.length := by omega
  have hu120 := Try.underlying120
  have hb : 0 ≤ now ∧ now ≤ 1099511627776 := by unfold timeB at ht; simpa using ht
  obtain ⟨hb1, hb2⟩ := hb
  obtain ⟨nl, hnl⟩ : ∃ nl, nl = newLen F M R x now := ⟨_, rfl⟩
  have HNL := Aside0.mk hnl
  rw [← hnl] at hlen ⊢
  have hs1 : IntKind.i64.wrap (2 * x.len) = 2 * x.len := IntWalk.i64_in _ (by have := hn.l0; have := hn.l1; omega)
  have hs2 : IntKind.i64.wrap (now - x.til) = now - x.til := IntWalk.i64_in _ (by have := hn.t0; have := hn.t1; omega)
  have hs3 : IntKind.i64.wrap (now + nl) = now + nl := IntWalk.i64_in _ (by omega)
  have HS3 := Aside0.mk hs3
  have HNX := Aside0.mk hn
  clear h ht hp hlc hcm hr hL hP hb1 hb2 had hx hnl hlen hs3 hn
  go_enter Try.func24, Try.ntmps24
  go_upto_region 8 with (first
    | (go_at_call 81; refine (rtime_calls now _).mono ?_; rintro e w' ⟨rfl, rfl⟩; rw [HT.out])
    | (go_at_call 83; refine (place_calls _ g _ base L F M R s HH.out).mono ?_; rintro e w' ⟨rfl, rfl⟩; rw [HP.out]))
  obtain ⟨w1, hw1⟩ : ∃ w1, w1 = w.alloc (.cells #[.string x.group, .int .i64 x.len, .int .i64 x.til] 120) := ⟨_, rfl⟩
  have hf1 : Fr no w w1 := by rw [hw1]; exact (Fr.refl w no).alloc _
  obtain ⟨bx, hbx⟩ : ∃ bx, bx = w.heap.size := ⟨_, rfl⟩
  have hbx1 : w1.heap[bx]? = some (.cells #[.string x.group, .int .i64 x.len, .int .i64 x.til] 120 (0, 0)) := by rw [hw1, hbx]; exact heap_alloc_new w _
  rw [← hw1, ← hbx]
  have hne : bx ≠ gb := by
    have h1 := HH.out.own.lt (k := gb) (by rw [HAD.out]; rfl)
    omega
  have hb1 : w1.cell? ⟨bx, 1, none⟩ = some (.int .i64 x.len) := (blk_cell hbx1 1).trans rfl
  have hb2 : w1.cell? ⟨bx, 2, none⟩ = some (.int .i64 x.til) := (blk_cell hbx1 2).trans rfl
  have HH1 := Aside0.mk (HH.out.no hf1)
  have HF1 := Aside0.mk hf1
  have HNE := Aside0.mk hne
  have hc0 := cell_fr hc0 hf1 (fun h => h)
  have hc1 := cell_fr hc1 hf1 (fun h => h)
  have hc2 := cell_fr hc2 hf1 (fun h => h)
  have hc3 := cell_fr hc3 hf1 (fun h => h)
  clear hw1 hf1 hbx hbx1 hne hx0 hx1 hx2
  go_cut [9] from 43 to 92 (fun v9 wd => v9 = .int .i64 (min (2 * x.len) M) ∧ ∃ m, wd = w1.drewN m)
  case first =>
    go_quiet (fail)
    go_wp2_with fail
    all_goals
      go_meet
      refine ⟨?_, _, rfl⟩
      congr 1
      omega
  case rest =>
  obtain ⟨rfl, m1, rfl⟩ := hcut
  go_wp2_with fail
  go_quiet (fail)
  go_upto_if 66 with fail
  go_cut [9] from 43 to 92 (fun v9 wd => v9 = .int .i64 nl ∧ ∃ m, wd = w1.drewN m)
  case first =>
    by_cases hr : R ≤ now - x.til
    · have hd : decide (R ≤ now - x.til) = true := decide_eq_true hr
      have HR := Aside0.mk hr
      go_wp2_with fail
      all_goals
        first
        | (go_meet; refine ⟨?_, _, rfl⟩; rw [HNL.out]; unfold newLen; rw [if_pos HR.out]; done)
        | (exfalso; have := HR.out; omega)
    · have hd : decide (R ≤ now - x.til) = false := decide_eq_false hr
      have HR := Aside0.mk hr
      go_wp2_with fail
      all_goals
        first
        | (go_meet; refine ⟨?_, _, rfl⟩; rw [HNL.out]; unfold newLen; rw [if_neg (by have := HR.out; omega)]; done)
        | (exfalso; have := HR.out; omega)
  case rest =>
  obtain ⟨rfl, m2, rfl⟩ := hcut
  go_upto_region 11 with fail
  have hadk : (ad.add (k * 3)).block = gb ∧ ∀ i, (ad.add (k * 3)).off + i = k * 3 + i := by rw [HAD.out, add_plain]; exact ⟨rfl, fun i => by simp⟩
  have HADK := Aside0.mk hadk
  obtain ⟨cs0, hcs0⟩ := HH1.out.own.cells (k := gb) (by rw [HAD.out]; rfl)
  have hz1 : w1.frozen? ⟨(ad.add (k * 3)).block, (ad.add (k * 3)).off + 1, none⟩ = false := by rw [hadk.1]; exact blk_frozen hcs0 _
  clear hadk hcs0 hs1 hs2
  obtain ⟨q1, hq1⟩ : ∃ q : N3, q = ⟨x.group, nl, x.til⟩ := ⟨_, rfl⟩
  have HQ1 := Aside0.mk hq1
  clear hq1
  go_cut [] from 43 to 92 (fun wd => Aside0 (BR wd g (.slice (some ad) L.length c) base (L.set k q1) F M R) ∧ Aside0 (Fr (SR g (.slice (some ad) L.length c)) w wd) ∧ Aside0 (wd.cell? ⟨bx, 2, none⟩ = some (.int .i64 x.til)))
  case first =>
    have hex : ∃ vv, w1.cell? ⟨(ad.add (k * 3)).block, (ad.add (k * 3)).off + 1, none⟩ = some vv := by
      obtain ⟨ad', e, _, h1, _⟩ := n3_cells (HH1.out.own.er) k HK.out
      cases e
      exact ⟨_, h1⟩
    obtain ⟨vv, hvv⟩ := hex
    go_wp2_with fail
    go_meet
    have e1 : (⟨(ad.add (k * 3)).block, (ad.add (k * 3)).off + 1, none⟩ : Addr) = ⟨gb, k * 3 + 1, none⟩ := by rw [HADK.out.1, HADK.out.2]
    rw [e1]
    have hset : EOwn E120 ((w1.drewN m2).setCell ⟨gb, k * 3 + 1, none⟩ (.int .i64 nl)) base (.slice (some ad) L.length c) (L.set k q1) := by
      have h0 : EOwn E120 (w1.drewN m2) base (.slice (some ⟨gb, 0, none⟩) L.length c) L := by have := HH1.out.own; rw [HAD.out] at this; exact this
      rw [HAD.out]
      refine own_set h0 k HK.out 1 (by omega) q1 (.int .i64 nl) (fun j => ?_)
      rw [HQ1.out, ← HX.out]
      match j with
      | 0 => rfl
      | 1 => rfl
      | 2 => rfl
      | n + 3 => rfl
    have hfs : Fr (fun j => j = gb) w1 ((w1.drewN m2).setCell ⟨gb, k * 3 + 1, none⟩ (.int .i64 nl)) := ((Fr.refl w1 (fun j => j = gb)).drewN m2).setCell (p := ⟨gb, k * 3 + 1, none⟩) (.inl rfl) _
    have hgg : ¬ g = gb := fun e => HH1.out.gv (by rw [HAD.out, e]; rfl)
    refine ⟨⟨⟨blk_fr HH1.out.blk hfs hgg, hset, Nat.le_trans HH1.out.base_le hfs.size⟩⟩, ⟨(HF1.out.mono (fun _ h => h.elim)).then_ hfs (fun j hj => .inl (.inr (by rw [HAD.out, hj]; rfl)))⟩, ⟨cell_fr hb2 hfs HNE.out⟩⟩
  case rest =>
  clear hb1 hb2 hc0 hc1 hc2 hc3 hz1
  obtain ⟨HB2, HF2, HD2⟩ := hcut
  obtain ⟨w2, hw2⟩ : ∃ w2, w2 = wc := ⟨_, rfl⟩
  obtain ⟨hd0, -, -, -⟩ := HB2.out.cell
  obtain ⟨cs0, hcs0⟩ := HB2.out.own.cells (k := gb) (by rw [HAD.out]; rfl)
  have hz2 : wc.frozen? ⟨(ad.add (k * 3)).block, (ad.add (k * 3)).off + 2, none⟩ = false := by rw [HADK.out.1]; exact blk_frozen hcs0 _
  have hd2 := HD2.out
  have hll : (L.set k q1).length = L.length := List.length_set
  have hex : ∃ vv, wc.cell? ⟨(ad.add (k * 3)).block, (ad.add (k * 3)).off + 2, none⟩ = some vv := by
    have her : ER E120 wc (some ad) (L.set k q1) := EOwn.er (c := c) (n := L.length) HB2.out.own
    obtain ⟨ad', e, _, _, h1⟩ := n3_cells her k (by rw [hll]; exact HK.out)
    cases e
    exact ⟨_, h1⟩
  obtain ⟨vv, hvv⟩ := hex
  have hs3 := HS3.out
  have hmx : (if x.til ≤ now + nl then now + nl else x.til) = max x.til (now + nl) := by split <;> omega
  have fin : ∀ t : Int, t = max x.til (now + nl) → RPost w g (.slice (some ad) L.length c) base (L.set k (newNote F M R x now)) F M R (.int .i64 nl) (.returned (.int .i64 nl)) (wc.setCell ⟨(ad.add (k * 3)).block, (ad.add (k * 3)).off + 2, none⟩ (.int .i64 t)).drew := by
    intro t ht
    have e1 : (⟨(ad.add (k * 3)).block, (ad.add (k * 3)).off + 2, none⟩ : Addr) = ⟨gb, k * 3 + 2, none⟩ := by rw [HADK.out.1, HADK.out.2]
    rw [e1]
    have hset : EOwn E120 (wc.setCell ⟨gb, k * 3 + 2, none⟩ (.int .i64 t)) base (.slice (some ad) L.length c) (L.set k (newNote F M R x now)) := by
      have h0 : EOwn E120 wc base (.slice (some ⟨gb, 0, none⟩) (L.set k q1).length c) (L.set k q1) := by have := HB2.out.own; rw [HAD.out] at this; rw [hll]; exact this
      have h1 := own_set h0 k (by rw [hll]; exact HK.out) 2 (by omega) (newNote F M R x now) (.int .i64 t) (fun j => by
        rw [List.getElem_set_self, HQ1.out]
        have e3 : newNote F M R x now = ⟨x.group, nl, t⟩ := by unfold newNote; rw [ht, HNL.out]
        rw [e3]
        match j with
        | 0 => rfl
        | 1 => rfl
        | 2 => rfl
        | n + 3 => rfl)
      rw [List.set_set, hll] at h1
      rw [HAD.out]
      exact h1
    have hfs : Fr (fun j => j = gb) wc (wc.setCell ⟨gb, k * 3 + 2, none⟩ (.int .i64 t)) := (Fr.refl wc (fun j => j = gb)).setCell (p := ⟨gb, k * 3 + 2, none⟩) (.inl rfl) _
    have hgg : ¬ g = gb := fun e => HH1.out.gv (by rw [HAD.out, e]; rfl)
    exact ⟨_, rfl, (BR.no ⟨blk_fr HB2.out.blk hfs hgg, hset, Nat.le_trans HB2.out.base_le hfs.size⟩ (Fr.refl _ no).drew), (HF2.out.then_ hfs (fun j hj => .inl (.inr (by rw [HAD.out, hj]; rfl)))).drew⟩
  have FIN := Aside0.mk fin
  clear hcs0 hll hw2 w2 hmx fin
  go_upto_region 12 with fail
  go_still_tail 13, (by kernel_rfl)
  change wpList _ _ _ _ _ wc.drew
  go_wp2
  all_goals
    go_ret
    exact FIN.out _ (by omega)
end Go.Proofs.Ytdpchfifaidamaa.K
