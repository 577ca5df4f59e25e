/- The contract of the timer's Names: what is noted, in order. No condition. -/
import Derived.Test.YtdpchfifaidamaaTc
import Derived.Test.YtdpchfifaidamaaB1
import Derived.StillTailTactics
namespace Go.Proofs.Ytdpchfifaidamaa.T
open Go.RowKit Go.Maps Go.Proofs.YtdpchfifaidamaaW.PrintWords Go.Proofs.Ytdpchfifaidamaa.B
set_option linter.unusedVariables false
set_option linter.unusedSimpArgs false

def Sorted (f : ByteArray → Option Int) (l : List ByteArray) : Prop := l.Pairwise (fun a b => aheadB f a b = true)
structure NI (w wr : World) (g b r n : Nat) (f : ByteArray → Option Int) (left : ByteArray → Bool) (cnt : Nat) (v : Value) (l : List ByteArray) : Prop where
  rg : RangeIs wr b r n f left cnt
  blk : wr.heap[g]? = some (.cells #[.map (some b)] 67 (0, 0))
  own : SOwn wr w.heap.size v l
  len : l.length + cnt ≤ n
  srt : Sorted f l
  mem : ∀ s, s ∈ l ↔ (s.size ≤ maxLen ∧ (f s).isSome = true ∧ left s = false)
  fr : Fr no w wr
def NamesInv (w wr : World) (g b r n : Nat) (f : ByteArray → Option Int) (v : Value) : Prop := ∃ left cnt l, NI w wr g b r n f left cnt v l

structure NamesRes (f : ByteArray → Option Int) (n : Nat) (l : List ByteArray) : Prop where
  len : l.length ≤ n
  srt : Sorted f l
  mem : ∀ s, s ∈ l ↔ (s.size ≤ maxLen ∧ (f s).isSome = true)
def NamesPost (w : World) (n : Nat) (f : ByteArray → Option Int) (e : Ending) (w' : World) : Prop :=
  ∃ v l, e = .returned v ∧ SOwn w' w.heap.size v l ∧ NamesRes f n l ∧ Fr no w w'

theorem own_ne_iter {w : World} {b r n cnt base k : Nat} {f : ByteArray → Option Int} {left : ByteArray → Bool} {v : Value} {l : List ByteArray} (hr : RangeIs w b r n f left cnt) (ho : SOwn w base v l) (hk : v.ownBlock = some k) : k ≠ r := by
  obtain ⟨cs, hc⟩ := ho.cells hk
  obtain ⟨D, lf, ⟨es, clock, since, seen, c0, hb0, F, hs, hD, hr0, rest⟩, h2⟩ := hr
  intro e
  rw [e, hr0] at hc
  cases hc
theorem own_ne_map {w : World} {b n base k : Nat} {f : ByteArray → Option Int} {v : Value} {l : List ByteArray} (hr : MapIs w b n f) (ho : SOwn w base v l) (hk : v.ownBlock = some k) : k ≠ b := by
  obtain ⟨cs, hc⟩ := ho.cells hk
  obtain ⟨D, ⟨es, clock, hb, _⟩, _⟩ := hr
  intro e
  rw [e, hb] at hc
  cases hc
def Tail (f : ByteArray → Option Int) (l : List ByteArray) (x : ByteArray) (i : Nat) : Prop := ∀ y ∈ l.drop i, aheadB f x y = true
theorem Tail.end_ (f : ByteArray → Option Int) (l : List ByteArray) (x : ByteArray) : Tail f l x l.length := by
  intro y hy
  simp at hy
theorem Tail.step {f : ByteArray → Option Int} {l : List ByteArray} {x : ByteArray} {i : Nat} (h : Tail f l x i) (h0 : 0 < i) (hi : i ≤ l.length) (ha : aheadB f x (rdOf ByteArray.empty l ((i : Int) - 1)) = true) : Tail f l x (i - 1) := by
  intro y hy
  have hlt : i - 1 < l.length := by omega
  rw [List.drop_eq_getElem_cons hlt, List.mem_cons] at hy
  rcases hy with rfl | hy
  · have e : ((i : Int) - 1).toNat = i - 1 := by omega
    have : rdOf ByteArray.empty l ((i : Int) - 1) = l[i - 1] := by simp [rdOf, e, List.getD_eq_getElem?_getD, List.getElem?_eq_getElem hlt]
    rw [← this]; exact ha
  · exact h y (by rwa [show i - 1 + 1 = i by omega] at hy)

theorem sorted_ins {f : ByteArray → Option Int} {l : List ByteArray} {x : ByteArray} {i : Nat} (h : Sorted f l) (ht : Tail f l x i) (hi : i ≤ l.length)
    (hh : ∀ y, 0 < i → y = rdOf ByteArray.empty l ((i : Int) - 1) → aheadB f y x = true) : Sorted f (ins l i x) := by
  have hsp : Sorted f (l.take i ++ l.drop i) := by rw [List.take_append_drop]; exact h
  obtain ⟨h1, h2, h3⟩ := List.pairwise_append.1 hsp
  refine List.pairwise_append.2 ⟨h1, List.pairwise_cons.2 ⟨fun y hy => ht y hy, h2⟩, fun y hy z hz => ?_⟩
  rcases List.mem_cons.1 hz with rfl | hz
  · have h0 : 0 < i := by
      rcases Nat.eq_zero_or_pos i with h0 | h0
      · subst h0; simp at hy
      · exact h0
    have hlt : i - 1 < l.length := by omega
    have e : ((i : Int) - 1).toNat = i - 1 := by omega
    have he : rdOf ByteArray.empty l ((i : Int) - 1) = l[i - 1] := by simp [rdOf, e, List.getD_eq_getElem?_getD, List.getElem?_eq_getElem hlt]
    have hl := hh _ h0 rfl
    rw [he] at hl
    have htk : l.take i = l.take (i - 1) ++ [l[i - 1]] := by
      have := List.take_succ_eq_append_getElem hlt
      rwa [show i - 1 + 1 = i by omega] at this
    rw [htk] at hy h1
    rcases List.mem_append.1 hy with hy | hy
    · exact ahead_trans ((List.pairwise_append.1 h1).2.2 y hy _ (by simp)) hl
    · simp at hy; subst hy; exact hl
  · exact h3 y hy z hz

set_option maxRecDepth 100000 in
set_option maxHeartbeats 2000000 in
theorem names_calls (w : World) (g b n : Nat) (f : ByteArray → Option Int) (H : TT w g b n f) (hn : n < 1000000000) :
    Calls Try.prog 20 #[.pointer (some ⟨g, 0, none⟩)] w (NamesPost w n f) := by
  have HH := Aside0.mk H
  have hc0 : w.cell? ⟨g, 0, none⟩ = some (.map (some b)) := (blk_cell H.blk 0).trans rfl
  have HN := Aside0.mk hn
  clear H hn
  go_enter Try.func20, Try.ntmps20
  go_wp2_with (first
    | (go_at_call 77; refine (there_yes _ g b hc0).mono ?_; rintro e w' ⟨rfl, rfl⟩)
    | (at_range; refine wpL_range rfl _ rfl rfl HH.out.map ?_; intro w1 cnt hr1 hf1 hz1 hc1; have HR1 := Aside0.mk hr1; have HF1 := Aside0.mk hf1; have HZ1 := Aside0.mk hz1; have HC1 := Aside0.mk hc1; clear hr1 hf1 hz1 hc1))
  go_frame
  obtain ⟨r, hr⟩ : ∃ r, r = w.heap.size := ⟨_, rfl⟩
  have hinv : NamesInv w w1 g b r n f (.slice none 0 0) := by
    rw [hr]
    refine ⟨_, cnt, [], HR1.out, blk_fr HH.out.blk HF1.out (fun h => h), SOwn.nil _ _, by simpa using HC1.out, List.Pairwise.nil, fun s => ?_, HF1.out⟩
    exact ⟨fun h => (by cases h), fun ⟨_, h2, h3⟩ => by simp [h2] at h3⟩
  have hrg : r ≠ g := by have := blk_lt HH.out.blk; omega
  have hrw : w.heap.size ≤ r := by omega
  rw [← hr]
  have HI := Aside0.mk hinv
  have HRG := Aside0.mk hrg
  have HRW := Aside0.mk hrw
  clear hinv hrg hrw hr HR1 HF1 HZ1 HC1
  go_loopw [3] (fun v wr => Aside0 (NamesInv w wr g b r n f v)) (fun _ wr => wr.rangeLeft b r)
  case atStart => exact HI
  case round =>
    clear HI
    obtain ⟨left, cnt, l, hI⟩ := hrel.out
    have HI := Aside0.mk hI
    clear hI hrel
    go_wp2_with (first
      | (at_next; refine wpL_next rfl _ rfl rfl HI.out.rg ?_ ?_))
    · intro _ hl
      have HL := Aside0.mk hl
      clear hl
      go_wp2
      go_ret
      refine ⟨_, l, rfl, HI.out.own, ⟨by have := HI.out.len; omega, HI.out.srt, fun s => ?_⟩, HI.out.fr⟩
      rw [HI.out.mem]
      exact ⟨fun h => ⟨h.1, h.2.1⟩, fun h => ⟨h.1, h.2, HL.out s h.1⟩⟩
    · intro x c w2 cnt2 hxs hwc hlx hfx hr2 hlt2 hf2 hz2 hen
      have HXS := Aside0.mk hxs
      have HR2 := Aside0.mk hr2
      have HF2 := Aside0.mk hf2
      have HLX := Aside0.mk hlx
      have HLT := Aside0.mk hlt2
      have HFX := Aside0.mk hfx
      clear hxs hr2 hf2 hlx hfx hwc hlt2 hz2
      obtain ⟨A, cp, hv, hle, hC⟩ := HI.out.own.form
      subst hv
      have hown2 : SOwn w2 w.heap.size (.slice A l.length cp) l := HI.out.own.fr HF2.out (fun k hk e => own_ne_iter HI.out.rg HI.out.own hk e)
      have HO2 := Aside0.mk hown2
      have hC2 : Kd.C Kd.string w2 A l.length l := by
        obtain ⟨A', c', e, _, h⟩ := hown2.form
        cases e
        exact h
      have HC2 := Aside0.mk hC2
      have htt : TT w2 g b n f := ⟨blk_fr HI.out.blk HF2.out (fun e => HRG.out e.symm), HH.out.ne, HR2.out.owns⟩
      have HT2 := Aside0.mk htt
      have hll : l.length < 1000000000 := by have := HI.out.len; have := HN.out; omega
      have hls : ∀ s ∈ l, s.size ≤ maxLen := fun s hs => ((HI.out.mem s).1 hs).1
      have HLS := Aside0.mk hls
      have hxl : ¬ x ∈ l := by
        intro h
        have := ((HI.out.mem x).1 h).2.2
        rw [HLX.out] at this
        cases this
      have HXL := Aside0.mk hxl
      clear hown2 hC2 htt hC hle hls hxl
      go_wp2
      go_loopw [5] (fun v5 wi => ∃ i : Nat, i ≤ l.length ∧ v5 = .int .i64 i ∧ Aside0 (Tail f l x i) ∧ ∃ m, wi = w2.drewN m) (fun v5 _ => (intOf v5).toNat)
      case atStart => exact ⟨l.length, Nat.le_refl _, rfl, ⟨Tail.end_ f l x⟩, 0, rfl⟩
      case round =>
        obtain ⟨i, hi, rfl, HT, m, rfl⟩ := hrel
        by_cases hgo : 0 < i ∧ aheadB f x (rdOf ByteArray.empty l ((i : Int) - 1)) = true
        · obtain ⟨h0, ha⟩ := hgo
          obtain ⟨ad, e, hcell⟩ := Kd.at_string HC2.out ((i : Int) - 1) (by omega) (by omega)
          cases e
          obtain ⟨y, hy⟩ : ∃ y, y = rdOf ByteArray.empty l ((i : Int) - 1) := ⟨_, rfl⟩
          rw [← hy] at hcell ha
          have hyl : y ∈ l := by
            have hlt : i - 1 < l.length := by omega
            have e : ((i : Int) - 1).toNat = i - 1 := by omega
            rw [hy]
            simp [rdOf, e, List.getD_eq_getElem?_getD, List.getElem?_eq_getElem hlt]
          have HY := Aside0.mk hy
          have HYS := Aside0.mk (HLS.out y hyl)
          rw [show ((i : Int) - 1).toNat = i - 1 from by omega] at hcell
          have htm : TT (w2.drewN m) g b n f := HT2.out.fr (S := no) ((Fr.refl w2 no).drewN m) (fun h => h) (fun h => h)
          have HTM := Aside0.mk htm
          have HT' := Aside0.mk (HT.out.step h0 hi (by rw [← HY.out]; exact ha))
          clear hy hyl htm
          go_wp2_with (first
            | (go_at_call 79; refine (ahead_calls _ g b n f x y HTM.out HXS.out HYS.out).mono ?_; rintro e w' ⟨rfl, m2, rfl⟩))
          go_roundw
          case rel => exact ⟨i - 1, by omega, by congr 1; omega, HT', m + m2, rfl⟩
          case measure => simp [intOf]; omega
        · have hsrt : Sorted f (ins l i x) := by
            refine sorted_ins HI.out.srt HT.out hi (fun y h0 hy => ?_)
            refine ahead_total (fun e => ?_) (by
              cases hb : aheadB f x y
              · rfl
              · exact absurd ⟨h0, by rw [← hy]; exact hb⟩ hgo)
            have hlt : i - 1 < l.length := by omega
            have e2 : ((i : Int) - 1).toNat = i - 1 := by omega
            apply HXL.out
            rw [e, hy]
            simp [rdOf, e2, List.getD_eq_getElem?_getD, List.getElem?_eq_getElem hlt]
          have HSR := Aside0.mk hsrt
          clear hsrt
          have hw2 : w.heap.size ≤ w2.heap.size := Nat.le_trans HI.out.fr.size HF2.out.size
          have HW2 := Aside0.mk hw2
          obtain ⟨ob, hob⟩ : ∃ ob, ob = (Value.slice A l.length cp).ownBlock := ⟨_, rfl⟩
          have hobr : ∀ k, ob = some k → k ≠ r ∧ k ≠ b ∧ w.heap.size ≤ k := fun k hk => by
            rw [hob] at hk
            exact ⟨own_ne_iter HR2.out HO2.out hk, own_ne_map HR2.out.owns HO2.out hk, HO2.out.base_le hk⟩
          have HOB := Aside0.mk hob
          have HOR := Aside0.mk hobr
          clear hw2 hob hobr
          by_cases h0 : 0 < i
          focus
            have hb : aheadB f x (rdOf ByteArray.empty l ((i : Int) - 1)) = false := by
              cases hb : aheadB f x (rdOf ByteArray.empty l ((i : Int) - 1))
              · rfl
              · exact absurd ⟨h0, hb⟩ hgo
            clear hgo
            obtain ⟨ad, e, hcell⟩ := Kd.at_string HC2.out ((i : Int) - 1) (by omega) (by omega)
            cases e
            obtain ⟨y, hy⟩ : ∃ y, y = rdOf ByteArray.empty l ((i : Int) - 1) := ⟨_, rfl⟩
            rw [← hy] at hcell hb
            have hyl : y ∈ l := by
              have hlt : i - 1 < l.length := by omega
              have e : ((i : Int) - 1).toNat = i - 1 := by omega
              rw [hy]
              simp [rdOf, e, List.getD_eq_getElem?_getD, List.getElem?_eq_getElem hlt]
            have HYS := Aside0.mk (HLS.out y hyl)
            rw [show ((i : Int) - 1).toNat = i - 1 from by omega] at hcell
            have htm : TT (w2.drewN m) g b n f := HT2.out.fr (S := no) ((Fr.refl w2 no).drewN m) (fun h => h) (fun h => h)
            have HTM := Aside0.mk htm
            clear hy hyl htm
            go_wp2_with (first
              | (go_at_call 79; refine (ahead_calls _ g b n f x y HTM.out HXS.out HYS.out).mono ?_; rintro e w' ⟨rfl, m2, rfl⟩)
              | (at_builtin; refine wpL_append_str w.heap.size rfl _ _ rfl _ l ⟨#[]⟩ w2.heap.size rfl rfl ?_ ?_ ?_ ?_ ?_; (exact heap_alloc_new (w2.drewN _) _); (exact (HO2.out.drewN _).alloc _); (exact Nat.le_trans HW2.out (by simp)); (omega); intro g2 c2 w3 ho3 hf3 hb3 hl3 hc3; have HO3 := Aside0.mk ho3; have HF3 := Aside0.mk (show Fr (fun k => ob = some k) w2 w3 by rw [HOB.out]; exact (((Fr.refl w2 _).drewN _).alloc _).then_ hf3 (fun k hk => .inl hk)); clear ho3 hf3 hb3 hl3))
          rotate_left
          focus
            clear hgo
            go_wp2_with (first
              | (at_builtin; refine wpL_append_str w.heap.size rfl _ _ rfl _ l ⟨#[]⟩ w2.heap.size rfl rfl ?_ ?_ ?_ ?_ ?_; (exact heap_alloc_new (w2.drewN _) _); (exact (HO2.out.drewN _).alloc _); (exact Nat.le_trans HW2.out (by simp)); (omega); intro g2 c2 w3 ho3 hf3 hb3 hl3 hc3; have HO3 := Aside0.mk ho3; have HF3 := Aside0.mk (show Fr (fun k => ob = some k) w2 w3 by rw [HOB.out]; exact (((Fr.refl w2 _).drewN _).alloc _).then_ hf3 (fun k hk => .inl hk)); clear ho3 hf3 hb3 hl3))
          all_goals
            obtain ⟨hlx0, hbg, hlc, hcm, cur, hh, hcl, htk⟩ := HO3.out.row
            clear hlx0
            have hle1 : (l ++ [(⟨#[]⟩ : ByteArray)]).length = l.length + 1 := by simp
            rw [hle1] at htk hlc
            have HH3 := Aside0.mk hh
            have HCL := Aside0.mk hcl
            have HTK := Aside0.mk htk
            have hil : Aside0 (i ≤ l.length) := ⟨hi⟩
            have hc64 : (c2 : Int) ≤ 9223372036854775807 := by simp only [maxLen] at hcm; omega
            have hsl : (strs (l.drop i)).length = l.length - i := by simp [strs, encs]
            have HSL := Aside0.mk hsl
            have HBG := Aside0.mk hbg
            clear hle1 htk hcl hh hcm hsl hbg
            obtain ⟨A1, hs1, ha1⟩ := cut_str g2 (l.length + 1) c2 (i + 1) ((i : Int) + 1) (by omega) (by omega)
            obtain ⟨A2, hs2, ha2⟩ := cut_str g2 (l.length + 1) c2 i (i : Int) rfl (by omega)
            have HA1 := Aside0.mk ha1
            have HA2 := Aside0.mk ha2
            have hwr : IntKind.i64.wrap ((i : Int) + 1) = (i : Int) + 1 := IntWalk.i64_in _ (by omega)
            clear ha1 ha2
            go_still_tail 7, (by kernel_rfl)
            change wpList _ _ _ _ _ w3.drew
            clear hwr hs1 hs2
            have hclen : (strs (l.drop i)).length = (l.length + 1 - i).min (l.length - i) := by rw [HSL.out]; simp only [Nat.min_def]; split <;> omega
            have hsrc : ∀ ad, A2 = some ad → ∀ j v, (strs (l.drop i))[j]? = some v → w3.drew.cell? (ad.add j) = some v := by
              intro ad2 he j v hj
              have e2 := HA2.out (by have := hc3; omega)
              rw [e2] at he
              cases he
              have hjl : j < l.length - i := by
                have h : j < (strs (l.drop i)).length := by
                  rcases Nat.lt_or_ge j (strs (l.drop i)).length with h | h
                  · exact h
                  · rw [List.getElem?_eq_none h] at hj; cases hj
                rw [HSL.out] at h; exact h
              have hcell : w3.cell? ⟨g2, i + j, none⟩ = some v := by
                rw [cell_of_row w3 g2 (i + j) cur.toArray 9 (0, 0) HH3.out]
                have h1 : (cur.take (l.length + 1))[i + j]? = cur[i + j]? := List.getElem?_take_of_lt (by omega)
                rw [List.getElem?_toArray, ← h1, HTK.out]
                have h2 : (strs (l ++ [(⟨#[]⟩ : ByteArray)]))[i + j]? = (strs l)[i + j]? := by
                  simp only [strs, encs, List.map_append]
                  exact List.getElem?_append_left (by simp; omega)
                rw [h2, ← hj]
                simp [strs, encs, List.getElem?_drop]
              show w3.cell? _ = _
              unfold Addr.add
              split
              · rename_i h0
                have : j = 0 := by simpa using h0
                subst this
                exact hcell
              · exact hcell
            refine wpL_copy_splice rfl _ _ 27 27 rfl 9 Try.underlying27 info9s _ _ _ _ _ _ rfl rfl g2 (i + 1) cur 9 HH3.out (strs (l.drop i)) hclen ?c2 ?c3 ?c4 ?_
            case c2 =>
              intro hp
              rw [HSL.out] at hp
              exact ⟨HA1.out (by omega), _, HA2.out (by omega), hsrc _ (HA2.out (by omega))⟩
            case c3 => rw [HSL.out, HCL.out]; omega
            case c4 =>
              intro v hv
              simp only [strs, encs, List.mem_map] at hv
              obtain ⟨q, _, rfl⟩ := hv
              rfl
            intro w4 hh4 hf4 hz4
            have hf34 : Fr (fun k => k = g2) w3 w4 := (((Fr.refl w3 no).drew).mono (fun _ h => h.elim)).then_ hf4 (fun k hk => .inl hk)
            have HH4 := Aside0.mk hh4
            have HF4 := Aside0.mk hf34
            have hspl : (splice cur (i + 1) (strs (l.drop i))).length = c2 := by rw [length_splice _ _ _ (by rw [HSL.out, HCL.out]; omega), HCL.out]
            have hcell4 : ∃ v, w4.cell? ⟨g2, i, none⟩ = some v := by
              refine ⟨(splice cur (i + 1) (strs (l.drop i)))[i]'(by rw [hspl]; omega), ?_⟩
              rw [cell_of_row w4 g2 i _ 9 (0, 0) HH4.out]
              simp
            obtain ⟨v4, hcell4⟩ := hcell4
            have hfz4 : w4.frozen? ⟨g2, i, none⟩ = false := blk_frozen HH4.out i
            have HSPL := Aside0.mk hspl
            clear hh4 hf4 hclen hsrc hf34 hz4 hspl
            go_wp2
            have hr3 := HR2.out.fr HF3.out (fun e => (HOR.out b e).2.1 rfl) (fun e => (HOR.out r e).1 rfl)
            have hgr : g2 ≠ r := own_ne_iter hr3 HO3.out rfl
            have hgb : g2 ≠ b := own_ne_map hr3.owns HO3.out rfl
            have hr4 := hr3.fr HF4.out (fun e => hgb e.symm) (fun e => hgr e.symm)
            have hf5 : Fr (fun k => k = g2) w4 (w4.setCell ⟨g2, i, none⟩ (.string x)) := (Fr.refl w4 (fun k => k = g2)).setCell (p := ⟨g2, i, none⟩) (.inl rfl) _
            have hr5 := hr4.fr hf5 (fun e => hgb e.symm) (fun e => hgr e.symm)
            have hgw : g < w.heap.size := blk_lt HH.out.blk
            have hb2 := HBG.out
            go_roundw
            case rel =>
              refine ⟨⟨_, cnt2, ins l i x, hr5, ?_, ?_, ?_, HSR.out, fun s => ?_, ?_⟩⟩
              · have h2 := blk_fr HI.out.blk HF2.out (fun e => HRG.out e.symm)
                have h3 := blk_fr h2 HF3.out (fun e => by have := (HOR.out g e).2.2; omega)
                have h4 := blk_fr h3 HF4.out (fun e => by omega)
                exact blk_fr h4 hf5 (fun e => by omega)
              · have e1 : (ins l i x).length = l.length + 1 := ins_length _ _ _ hil.out
                have := blk_put HH4.out i (.string x) rfl
                rw [← e1]
                refine SOwn.mk (cur := (splice cur (i + 1) (strs (l.drop i))).set i (.string x)) hb2 (by simpa using this) (by omega) (by simp only [maxLen]; omega) (by simp [HSPL.out]) ?_
                rw [e1]
                exact splice_ins cur l _ x i hil.out (by rw [HCL.out]; omega) HTK.out
              · rw [ins_length _ _ _ hil.out]; have := HI.out.len; have := HLT.out; omega
              · rw [mem_ins, HI.out.mem]
                by_cases e : s = x
                · subst e
                  simp [HXS.out, HFX.out]
                · simp [e]
              · have h2 := HI.out.fr.then_ HF2.out (fun k hk => .inr (by rw [hk]; exact HRW.out))
                have h3 := h2.then_ HF3.out (fun k hk => .inr (HOR.out k hk).2.2)
                have h4 := h3.then_ HF4.out (fun k hk => .inr (by rw [hk]; exact hb2))
                exact h4.then_ hf5 (fun k hk => .inr (by rw [hk]; exact hb2))
            case measure => rw [hr5.left_eq, HI.out.rg.left_eq]; exact HLT.out

end Go.Proofs.Ytdpchfifaidamaa.T
