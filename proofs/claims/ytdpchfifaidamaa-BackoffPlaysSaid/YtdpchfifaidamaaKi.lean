/- Fine. No condition. -/
import Derived.Test.YtdpchfifaidamaaKh
import Derived.Deep.RegionLaw
import Derived.IntWalk
namespace Go.Proofs.Ytdpchfifaidamaa.K
open Go.RowKit Go.Maps Go.Proofs.YtdpchfifaidamaaW.PrintWords Go.Proofs.Ytdpchfifaidamaa.B
set_option linter.unusedVariables false
set_option linter.unusedSimpArgs false

theorem filter_none {L : List N3} {s : ByteArray} (h : ∀ n ∈ L, n.group ≠ s) : L.filter (keep3 s) = L :=
  List.filter_eq_self.2 (fun n hn => by unfold keep3; exact decide_eq_true (h n hn))
theorem note_filter (L : List N3) (s t : ByteArray) : del2 (note L) s t = note (L.filter (keep3 s)) t := by
  unfold del2 note at3
  by_cases e : t = s
  · subst e
    rw [if_pos rfl]
    have : (L.filter (keep3 t)).find? (fun n => decide (n.group = t)) = none := by
      rw [List.find?_eq_none]
      intro n hn h
      have := (List.mem_filter.1 hn).2
      unfold keep3 at this
      simp at this h
      exact this h
    rw [this]; rfl
  · rw [if_neg e]
    congr 1
    induction L with
    | nil => rfl
    | cons a r ih =>
      rw [List.find?_cons]
      by_cases ha : a.group = s
      · have hk : keep3 s a = false := by simp [keep3, ha]
        have ht : ¬ s = t := fun h => e h.symm
        rw [List.filter_cons, hk, ih]
        simp [ha, ht]
      · have hk : keep3 s a = true := by simp [keep3, ha]
        rw [List.filter_cons, hk]
        simp only [if_true, List.find?_cons, ih]
theorem filter_one {L : List N3} {s : ByteArray} (hn : (L.map N3.group).Nodup) (k : Nat) (hk : k < L.length) (h : L[k].group = s) : L.filter (keep3 s) = L.take k ++ L.drop (k + 1) := by
  have h1 : L = L.take k ++ L[k] :: L.drop (k + 1) := by rw [← List.drop_eq_getElem_cons hk, List.take_append_drop]
  have hx : ∀ j (hj : j < L.length), j ≠ k → L[j].group ≠ s := by
    intro j hj hjk e
    have h2 := List.pairwise_iff_getElem.1 hn
    rcases Nat.lt_or_gt_of_ne hjk with h3 | h3
    · exact h2 j k (by simpa using hj) (by simpa using hk) h3 (by simp [e, h])
    · exact h2 k j (by simpa using hk) (by simpa using hj) h3 (by simp [e, h])
  conv => lhs; rw [h1]
  rw [List.filter_append, List.filter_cons, filter_none, filter_none]
  · simp [keep3, h]
  · intro n hn
    obtain ⟨j, hj, rfl⟩ := List.getElem_of_mem hn
    rw [List.getElem_drop]
    exact hx _ _ (by omega)
  · intro n hn
    obtain ⟨j, hj, rfl⟩ := List.mem_take_iff_getElem.1 hn
    exact hx _ _ (by omega)

theorem step_append_full {W : World} (base : Nat) {ops : Array Oper} {o : Oper} {a : Act} {K : Act → World → Prop} {Q : Exit → Act → World → Prop} {E' : Prop} (hgd : o.guard = none) (s x : Operand) (ho : o.op = .call { callee := .builtin .append, args := #[s, x], argTypes := #[27, 27] })
    (gb nk : Nat) (l ys : List ByteArray) (A : Option Addr) (c0 m : Nat) (hs : a.eval s = .slice (some ⟨gb, 0, none⟩) nk nk) (hnk : nk = l.length) (hx : a.eval x = .slice A m c0) (hm : m = ys.length) (HO : SRow W base (.slice (some ⟨gb, 0, none⟩) nk nk) l) (hr : ER E9 W A ys) (hbase : base ≤ W.heap.size) (hl : l.length + ys.length < 1000000000)
    (h : ∀ A' c' w1, SRow w1 base (.slice A' (l ++ ys).length c') (l ++ ys) → Fr no W w1 → K (a.put o.dst (.slice A' (l ++ ys).length c')) w1) :
    if Region.wanted o (yielded ops a.tmps) = true then Oper.wp Try.prog o a W K Q else E' := by
  have hw : Region.wanted o (yielded ops a.tmps) = true := by simp [Region.wanted, hgd]
  rw [if_pos hw]
  subst hm hnk
  obtain ⟨i0, hi, hzz⟩ := Option.map_eq_some_iff.1 info9
  simp only [Prod.mk.injEq] at hzz
  obtain ⟨hz0, hz1, hz2⟩ := hzz
  by_cases hy : ys.length = 0
  · obtain rfl : ys = [] := List.eq_nil_of_length_eq_zero hy
    have hrun : (Builtin.append_ #[27, 27] o.type #[.slice (some ⟨gb, 0, none⟩) l.length l.length, .slice A 0 c0]).run Try.prog W = .ok (.slice (some ⟨gb, 0, none⟩) l.length l.length) W := by
      cases A <;> simp [Builtin.append_, run_underlying Try.underlying27, sizeOf, typeInfo, hi, Builtin.lenOf, Builtin.firstCells, storeCells, loadCells, loadCellsFrom]
    have h' := h (some ⟨gb, 0, none⟩) l.length W (by simpa using HO) (Fr.refl _ _)
    unfold Oper.wp execOp
    simp only [ho, resolve, invoke, builtin, Sem.run_bind, Sem.run_pure, Result.andThen_ok, List.map_toArray, List.map_cons, List.map_nil, hs, hx, List.length_nil, hrun]
    have h'' : K (a.put o.dst (.slice (some ⟨gb, 0, none⟩) l.length l.length)) W := by simpa using h'
    exact h''
  · obtain ⟨ad, rfl, _⟩ := hr 0 (by omega)
    obtain ⟨A1, c1, e1, _, _, her⟩ := HO.form
    cases e1
    have hrd : ∀ j u, (strs l)[j]? = some u → W.cell? ((⟨gb, 0, none⟩ : Addr).add j) = some u := by
      intro j u hu
      have hj : j < l.length := by
        rcases Nat.lt_or_ge j l.length with h | h
        · exact h
        · rw [List.getElem?_eq_none (by simp [strs, encs]; omega)] at hu; cases hu
      obtain ⟨ad', e, hc⟩ := her j hj
      cases e
      have := hc 0 (.string l[j]) rfl
      simp [strs, encs, List.getElem?_eq_getElem hj] at hu
      rw [← hu]
      simpa [show E9.sz = 1 from rfl] using this
    have hnw : ∀ j u, (strs ys)[j]? = some u → W.cell? (ad.add j) = some u := by
      intro j u hu
      have hj : j < ys.length := by
        rcases Nat.lt_or_ge j ys.length with h | h
        · exact h
        · rw [List.getElem?_eq_none (by simp [strs, encs]; omega)] at hu; cases hu
      obtain ⟨ad', e, hc⟩ := hr j hj
      cases e
      have := hc 0 (.string ys[j]) rfl
      simp [strs, encs, List.getElem?_eq_getElem hj] at hu
      rw [← hu]
      simpa [show E9.sz = 1 from rfl] using this
    obtain ⟨v', w', hrun, r1, r2⟩ := run_append_arg_grows (P := Try.prog) W 27 o.type 9 i0 _ 1 16 Try.underlying27 hi hz0 hz1 hz2 rfl (by decide) ⟨gb, 0, none⟩ l.length l.length (strs l) (by simp [strs, encs]) hrd ad ys.length c0 (strs ys) (by simp [strs, encs]) hnw (by omega) (by simp only [maxLen]; omega) (by omega)
    have hown : SOwn w' base v' (l ++ ys) := by
      have h0 : SOwn w' W.heap.size v' (l ++ ys) := by unfold SOwn; simpa [strs, encs] using r1
      exact own_less h0 hbase
    obtain ⟨A', c', rfl, _, _⟩ := hown.form
    unfold Oper.wp execOp
    simp only [ho, resolve, invoke, builtin, Sem.run_bind, Sem.run_pure, Result.andThen_ok, List.map_toArray, List.map_cons, List.map_nil, hs, hx, hrun]
    exact h A' c' w' (SRow.of_own hown) (.of_grown r2 (fun k e => by cases e))

theorem cut_hm (gb n c k : Nat) (i : Int) (hi : i = k) (hk : k ≤ n) (hn : n ≤ c) (hc : c ≤ maxLen) : ∀ W : World, (Instr.slice 27 (.slice (some ⟨gb, 0, none⟩) n c) none (some (.int .i64 i)) (some (.int .i64 i))).run Try.prog W = .ok (.slice (some ⟨gb, 0, none⟩) k k) W := by
  intro W
  subst hi
  obtain ⟨i0, hi, hzz⟩ := Option.map_eq_some_iff.1 info9
  simp only [Prod.mk.injEq] at hzz
  have hel : Try.prog.elem 27 = 9 := by simp [Program.elem, Try.underlying27]
  have hk0 : (0 : Int) ≤ k := by omega
  have hkc : (k : Int) ≤ c := by omega
  have hb : (Instr.sliceBounds true n c none (some (Value.int IntKind.i64 k)) (some (Value.int IntKind.i64 k))).run Try.prog W = .ok (0, k, k) W := by
    simp [Instr.sliceBounds, run_sliceBound, hkc, hk0, Result.andThen]
  simp [Instr.slice, run_underlying Try.underlying27, sizeOf, typeInfo, hi, Result.andThen, add_plain, hb]

structure FI (w wr : World) (g b : Nat) (v : Value) (base n : Nat) (L : List N3) (f : ByteArray → Option NP) (F M R : Int) : Prop where
  blk : wr.heap[g]? = some (.cells #[.map (some b), v, .int .i64 F, .int .i64 M, .int .i64 R] 115 (0, 0))
  own : SRow wr base v (L.map N3.group)
  map : MapIs2 wr b n f
  fr : Fr (fun k => k = b) w wr
set_option maxRecDepth 100000 in
set_option maxHeartbeats 2000000 in
theorem fine_calls (w : World) (g b : Nat) (v : Value) (base n : Nat) (L : List N3) (F M R : Int) (s : ByteArray) (h : BT w g b v base n L F M R) (hs : s.size ≤ maxLen) (hL : L.length < 100000000) (hnd : (L.map N3.group).Nodup) :
    Calls Try.prog 25 #[.pointer (some ⟨g, 0, none⟩), .string s] w (BPost w g b v base n (L.filter (keep3 s)) F M R (.tuple #[])) := by
  have HH := Aside0.mk h
  have HS := Aside0.mk hs
  have HND := Aside0.mk hnd
  obtain ⟨hc0, -, hc2, -, -⟩ := h.cell
  obtain ⟨l, hl⟩ : ∃ l, l = L.map N3.group := ⟨_, rfl⟩
  obtain ⟨A, c, hv, hlc, hcm, -⟩ := h.own.form
  rw [← hl] at hv hlc
  have HV := Aside0.mk hv
  have HL := Aside0.mk hl
  have hll : l.length < 100000000 := by rw [hl, List.length_map]; exact hL
  have HLL := Aside0.mk hll
  have HLC := Aside0.mk hlc
  have HCM := Aside0.mk hcm
  have hlm : l.length ≤ 9223372036854775807 := by omega
  clear h hs hnd hL hv hl hlc hcm hll
  go_enter Try.func25, Try.ntmps25
  go_upto_region 2 with (first
    | (go_at_call 82; refine (there_calls _ g F hc2 HH.out.par.f1).mono ?_; rintro e w' ⟨rfl, rfl⟩)
    | (at_delete; refine wpL2_delete rfl _ _ rfl rfl HH.out.map s rfl HS.out ?_; intro w1 hm1 hf1 _; have HM1 := Aside0.mk hm1; have HF1 := Aside0.mk hf1; clear hm1 hf1))
  have hfi : FI w w1 g b v base n L (del2 (note L) s) F M R := ⟨blk_fr HH.out.blk HF1.out HH.out.gb, HH.out.own.fr HF1.out (fun k hk e => HH.out.bv (e ▸ hk)), HM1.out, HF1.out⟩
  have FI1 := Aside0.mk hfi
  have hg1 : w1.cell? ⟨g, 1, none⟩ = some (.slice A l.length c) := HV.out ▸ ((blk_cell hfi.blk 1).trans rfl)
  clear hfi hc0 hc2
  go_wp2_with fail
  go_loop [19] (fun i => ∃ k : Nat, k ≤ l.length ∧ i = .int .i64 k ∧ Aside0 (∀ x ∈ l.take k, x ≠ s)) (fun i => l.length - (intOf i).toNat)
  case atStart => exact ⟨0, Nat.zero_le _, rfl, ⟨by simp⟩⟩
  case round =>
    obtain ⟨k, hk, rfl, HT⟩ := hrel
    by_cases hlt : k < l.length
    · have hrow : SRow w1 base (.slice A l.length c) l := by have := FI1.out.own; rw [← HL.out, HV.out] at this; exact this
      have hor : ∃ gb, A = some ⟨gb, 0, none⟩ := by
        rcases hrow with ⟨h1, h2⟩ | ⟨gb, c', cur, he, _⟩
        · rw [h2] at hlt; simp at hlt
        · injection he with e1 e2 e3; exact ⟨gb, e1⟩
      obtain ⟨gb, rfl⟩ := hor
      have HROW := Aside0.mk hrow
      obtain ⟨A1, c1, e1, _, _, her⟩ := hrow.form
      cases e1
      have HER := Aside0.mk her
      obtain ⟨ad, e, hcl⟩ := her k hlt
      cases e
      obtain ⟨x, hx⟩ : ∃ x, x = l[k] := ⟨_, rfl⟩
      have hcx : w1.cell? ⟨gb, k, none⟩ = some (.string x) := by
        have := hcl 0 (.string x) (by rw [hx]; rfl)
        rw [add_plain] at this
        simpa [show E9.sz = 1 from rfl] using this
      have htk : l.take (k + 1) = l.take k ++ [x] := by rw [hx]; exact List.take_succ_eq_append_getElem hlt
      have HTK := Aside0.mk htk
      have HX := Aside0.mk hx
      have HLT := Aside0.mk hlt
      clear hrow her hcl htk hx
      by_cases he : x = s
      · have hb3 : (x.toList == s.toList) = true := by simp [he]
        have HE := Aside0.mk he
        clear he
        have hsl1 := cut_hm gb l.length c k (k : Int) rfl (by omega) HLC.out HCM.out
        have hlk : k + 1 ≤ l.length := hlt
        obtain ⟨A2, hsl2, hA2⟩ := cut_el E9 (some ⟨gb, 0, none⟩) l.length c (k + 1) ((k : Int) + 1) (by omega) hlk
        have hsl2 : ∀ W : World, (Instr.slice 27 (.slice (some ⟨gb, 0, none⟩) l.length c) (some (.int .i64 ((k : Int) + 1))) none none).run Try.prog W = .ok (.slice A2 (l.length - (k + 1)) (c - (k + 1))) W := hsl2
        have HER2 := Aside0.mk (show ER E9 w1 A2 (l.drop (k + 1)) from hA2 ▸ HER.out.drop (k + 1) c hlk HLC.out)
        have hsum : IntKind.i64.wrap ((k : Int) + 1) = (k : Int) + 1 := IntWalk.i64_in _ (by have := HLL.out; omega)
        have HLK := Aside0.mk hlk
        have HFG := Aside0.mk FI1.out.blk
        clear hlk hA2
        go_upto_region 6 with fail
        go_region_law (first
          | (refine step_append_full base rfl _ _ rfl gb k (l.take k) (l.drop (k + 1)) A2 _ _ rfl ?_ rfl ?_ (SRow.cut HROW.out k (by have := HLT.out; omega)) HER2.out ?_ ?_ ?_; (have := HLT.out; rw [List.length_take]; omega); (rw [List.length_drop]); (exact Nat.le_trans HH.out.base_le FI1.out.fr.size); (have := HLL.out; rw [List.length_take, List.length_drop]; omega); intro A3 c3 w3 hr3 hf3; obtain ⟨nn, hnn⟩ : ∃ nn, nn = (l.take k ++ l.drop (k + 1)).length := ⟨_, rfl⟩; rw [← hnn] at hr3 ⊢; clear hnn; have HR3 := Aside0.mk hr3; have HF3 := Aside0.mk ((Fr.refl w1 no).drew.then_ hf3 (fun _ h => h.elim)); have hb3' := blk_fr HFG.out HF3.out (fun h => h); have HB3 := Aside0.mk hb3'; have hz3 : w3.frozen? ⟨g, 1, none⟩ = false := blk_frozen hb3' 1; have hz4 : w3.cell? ⟨g, 1, none⟩ = some v := (blk_cell hb3' 1).trans rfl; clear hr3 hf3 hb3'))
        all_goals
          go_wp2_with fail
          (try simp only [Exit.inBlock, Exit.then])
          refine ret0 rfl rfl ?_
          have hfs : Fr (fun k => k = g) w3 (w3.setCell ⟨g, 1, none⟩ (.slice A3 nn c3)) := (Fr.refl w3 (fun k => k = g)).setCell (p := ⟨g, 1, none⟩) (.inl rfl) _
          have hfl : (L.filter (keep3 s)).map N3.group = l.take k ++ l.drop (k + 1) := by
            have hk2 : k < L.length := by have := HLT.out; rw [HL.out, List.length_map] at this; exact this
            rw [filter_one HND.out k hk2 (by have h1 := HX.out; rw [HE.out] at h1; rw [h1]; simp [HL.out]), HL.out, List.map_append, List.map_take, List.map_drop]
          refine ⟨.slice A3 nn c3, rfl, ⟨blk_set HB3.out 1 _, ?_, ((FI1.out.map.fr HF3.out (fun h => h)).fr hfs (fun e => HH.out.gb e.symm)).congr (fun t _ => note_filter L s t), Nat.le_trans HH.out.base_le (Nat.le_trans FI1.out.fr.size (Nat.le_trans HF3.out.size hfs.size)), HH.out.par⟩, ((FI1.out.fr.mono (fun k hk => .inr (.inl hk))).then_ HF3.out (fun _ h => h.elim)).then_ hfs (fun k hk => .inl (.inl hk))⟩
          rw [hfl]
          refine HR3.out.fr hfs (fun j hj e => ?_)
          obtain ⟨cs, hc⟩ := HR3.out.cells hj
          rw [e, HB3.out] at hc
          cases hc
      · have hb3 : (x.toList == s.toList) = false := by simpa using toList_ne he
        have HE := Aside0.mk he
        clear he
        go_wp2_with fail
        go_round
        case rel => exact ⟨k + 1, by omega, by go_num, ⟨by rw [HTK.out]; intro n hn; rcases List.mem_append.1 hn with h | h; exact HT.out n h; simp at h; rw [h]; exact HE.out⟩⟩
        case measure => simp [intOf]; omega
    · obtain rfl : k = l.length := by omega
      go_wp2_with fail
      go_end0
      have hno : L.filter (keep3 s) = L := filter_none (by
        intro n hn
        have h0 := HT.out
        rw [List.take_length, HL.out] at h0
        exact h0 n.group (List.mem_map_of_mem hn))
      exact ⟨v, rfl, ⟨FI1.out.blk, by rw [hno]; exact FI1.out.own, FI1.out.map.congr (fun t _ => note_filter L s t), Nat.le_trans HH.out.base_le FI1.out.fr.size, HH.out.par⟩, FI1.out.fr.mono (fun k hk => .inr (.inl hk))⟩
end Go.Proofs.Ytdpchfifaidamaa.K
