/- The ledger's table: what it is; there, of, Sum, Peak, Ticks, Total. No condition. -/
import Derived.Test.YtdpchfifaidamaaLa
import Derived.Handy
namespace Go.Proofs.Ytdpchfifaidamaa.L
open Go.RowKit Go.Maps Go.Proofs.YtdpchfifaidamaaW.PrintWords Go.Proofs.Ytdpchfifaidamaa.B
set_option linter.unusedVariables false
set_option linter.unusedSimpArgs false

structure LT (w : World) (g : Nat) (v : Value) (base : Nat) (R : List RV) (ticks : Int) : Prop where
  blk : w.heap[g]? = some (.cells #[v, .int .i64 ticks, .bool true] 103 (0, 0))
  own : EOwn E137 w base v R
  base_le : base ≤ w.heap.size
section
variable {w w' : World} {g base : Nat} {v : Value} {R : List RV} {ticks : Int}
theorem LT.gv (h : LT w g v base R ticks) : v.ownBlock ≠ some g := by
  intro e
  obtain ⟨cs, hc⟩ := h.own.cells e
  rw [h.blk] at hc
  cases hc
theorem LT.fr {S : Nat → Prop} (h : LT w g v base R ticks) (hk : Fr S w w') (hg : ¬ S g) (hv : ∀ k, v.ownBlock = some k → ¬ S k) : LT w' g v base R ticks :=
  ⟨blk_fr h.blk hk hg, h.own.fr hk hv, Nat.le_trans h.base_le hk.size⟩
theorem LT.no (h : LT w g v base R ticks) (hk : Fr no w w') : LT w' g v base R ticks := h.fr hk (fun h => h) (fun _ _ h => h)
theorem LT.cell (h : LT w g v base R ticks) : w.cell? ⟨g, 0, none⟩ = some v ∧ w.cell? ⟨g, 1, none⟩ = some (.int .i64 ticks) ∧ w.cell? ⟨g, 2, none⟩ = some (.bool true) :=
  ⟨(blk_cell h.blk 0).trans rfl, (blk_cell h.blk 1).trans rfl, (blk_cell h.blk 2).trans rfl⟩
end
theorem there_calls (w : World) (g : Nat) (b : Bool) (hc : w.cell? ⟨g, 2, none⟩ = some (.bool b)) : Calls Try.prog 98 #[.pointer (some ⟨g, 0, none⟩)] w fun e w' => e = .returned (.bool b) ∧ w = w' := by
  go_enter Try.func98, Try.ntmps98
  go_wp2
  go_ret
  exact ⟨rfl, rfl⟩
theorem there_nil (w : World) : Calls Try.prog 98 #[.pointer none] w fun e w' => e = .returned (.bool false) ∧ w = w' := by
  go_enter Try.func98, Try.ntmps98
  go_wp2
  go_ret
  exact ⟨rfl, rfl⟩
def zR : RV := ⟨⟨#[]⟩, 0, 0, 0, 0⟩
/-- the row of a name; a zero one: there is none. -/
def ofF (R : List RV) (s : ByteArray) : Nat → Nat → RV
  | 0, _ => zR
  | d + 1, i => if (R.getD i zR).name = s then R.getD i zR else ofF R s d (i + 1)
def ofR (R : List RV) (s : ByteArray) : RV := ofF R s R.length 0
theorem ticks_calls (w : World) (g : Nat) (v : Value) (base : Nat) (R : List RV) (ticks : Int) (h : LT w g v base R ticks) : Calls Try.prog 68 #[.pointer (some ⟨g, 0, none⟩)] w fun e w' => e = .returned (.int .i64 ticks) ∧ w = w' := by
  obtain ⟨-, hc1, hc2⟩ := h.cell
  clear h
  go_enter Try.func68, Try.ntmps68
  go_wp2_with (go_at_call 98; refine (there_calls _ g true hc2).mono ?_; rintro e w' ⟨rfl, rfl⟩)
  go_ret
  exact ⟨rfl, rfl⟩
structure OI (w wr : World) (bx : Nat) (R : List RV) (s : ByteArray) (i : Nat) : Prop where
  fr : Fr no w wr
  blk : wr.heap[bx]? = some (.cells #[.string ⟨#[]⟩, .int .i64 0, .int .i64 0, .int .i64 0, .int .i64 0] 137 (0, 0))
  eq : ofF R s (R.length - i) i = ofR R s
def OfPost (w : World) (x : RV) (e : Ending) (w' : World) : Prop := e = .returned (.agg #[.string x.name, .int .i64 x.price, .int .i64 x.all, .int .i64 x.peak, .int .i64 x.sum]) ∧ Fr no w w'
theorem getD_lt {R : List RV} {i : Nat} (h : i < R.length) : R.getD i zR = R[i] := by simp [List.getD_eq_getElem?_getD, List.getElem?_eq_getElem h]
set_option maxRecDepth 100000 in
set_option maxHeartbeats 2000000 in
theorem of_calls (w : World) (g : Nat) (v : Value) (base : Nat) (R : List RV) (ticks : Int) (s : ByteArray) (h : LT w g v base R ticks) (hl : R.length ≤ 1000000) :
    Calls Try.prog 100 #[.pointer (some ⟨g, 0, none⟩), .string s] w (OfPost w (ofR R s)) := by
  have HH := Aside0.mk h
  have hu137 := Try.underlying137
  obtain ⟨A, c, hv, hlc, hcm, hr⟩ := h.own.form
  have HR := Aside0.mk hr
  have hbx := heap_alloc_new w (.cells #[.string ⟨#[]⟩, .int .i64 0, .int .i64 0, .int .i64 0, .int .i64 0] 137)
  have HBX := Aside0.mk hbx
  have hT := h.no ((Fr.refl w no).alloc (.cells #[.string ⟨#[]⟩, .int .i64 0, .int .i64 0, .int .i64 0, .int .i64 0] 137))
  obtain ⟨hc0, -, hc2⟩ := hT.cell
  rw [hv] at hc0
  obtain ⟨bx, hbxe⟩ : ∃ bx, bx = w.heap.size := ⟨_, rfl⟩
  have HE := Aside0.mk hbxe
  rw [← hbxe] at HBX
  clear h hbx hT hr hcm hbxe hlc
  go_enter Try.func100, Try.ntmps100
  go_wp2_with (go_at_call 98; refine (there_calls _ g true hc2).mono ?_; rintro e w' ⟨rfl, rfl⟩)
  rw [← HE.out]
  go_loopw [6, 14] (fun v6 v14 wr => ∃ i : Nat, i ≤ R.length ∧ v14 = .int .i64 i ∧ Aside0 (OI w wr bx R s i)) (fun _ v14 _ => R.length - (intOf v14).toNat)
  case atStart => exact ⟨0, by omega, rfl, ⟨⟨(Fr.refl w no).alloc _, HBX.out, by rw [Nat.sub_zero]; rfl⟩⟩⟩
  case round =>
    obtain ⟨i, hi, rfl, HI⟩ := hrel
    by_cases hlt : i < R.length
    · obtain ⟨ad, e, hcell⟩ := HR.out i hlt
      subst e
      have f : ∀ j u, (E137.cells R[i])[j]? = some u → wr.cell? (ad.add (i * 5 + j)) = some u := fun j u hu => cell_fr (hcell j u hu) HI.out.fr (fun h => h)
      have hq0 : wr.cell? (ad.add (i * 5)) = some (.string R[i].name) := f 0 _ rfl
      have hq1 : wr.cell? ⟨(ad.add (i * 5)).block, (ad.add (i * 5)).off + 1, none⟩ = some (.int .i64 R[i].price) := by rw [← add_field _ _ 1 (by omega)]; exact f 1 _ rfl
      have hq2 : wr.cell? ⟨(ad.add (i * 5)).block, (ad.add (i * 5)).off + 2, none⟩ = some (.int .i64 R[i].all) := by rw [← add_field _ _ 2 (by omega)]; exact f 2 _ rfl
      have hq3 : wr.cell? ⟨(ad.add (i * 5)).block, (ad.add (i * 5)).off + 3, none⟩ = some (.int .i64 R[i].peak) := by rw [← add_field _ _ 3 (by omega)]; exact f 3 _ rfl
      have hq4 : wr.cell? ⟨(ad.add (i * 5)).block, (ad.add (i * 5)).off + 4, none⟩ = some (.int .i64 R[i].sum) := by rw [← add_field _ _ 4 (by omega)]; exact f 4 _ rfl
      obtain ⟨x, hx⟩ : ∃ x, x = R[i] := ⟨_, rfl⟩
      rw [← hx] at hq0 hq1 hq2 hq3 hq4
      have hst : ofF R s (R.length - i) i = if x.name = s then x else ofF R s (R.length - (i + 1)) (i + 1) := by
        rw [show R.length - i = (R.length - (i + 1)) + 1 from by omega, ofF, getD_lt hlt, hx]
      have HST := Aside0.mk hst
      clear hcell f hx hst
      by_cases he : x.name = s
      · have hb : (x.name.toList == s.toList) = true := by rw [he]; simp
        have HEQ := Aside0.mk (show ofR R s = x from by rw [← HI.out.eq, HST.out, if_pos he])
        have hba := heap_alloc_new wr (.cells #[.string x.name, .int .i64 x.price, .int .i64 x.all, .int .i64 x.peak, .int .i64 x.sum] 137)
        have hrc := blk_fr HI.out.blk ((Fr.refl wr no).alloc (.cells #[.string x.name, .int .i64 x.price, .int .i64 x.all, .int .i64 x.peak, .int .i64 x.sum] 137)) (fun h => h)
        have HFA := Aside0.mk ((Fr.refl wr no).alloc (.cells #[.string x.name, .int .i64 x.price, .int .i64 x.all, .int .i64 x.peak, .int .i64 x.sum] 137))
        have HBA := Aside0.mk hba
        have HRC := Aside0.mk hrc
        have HNE := Aside0.mk (show bx ≠ wr.heap.size by have := blk_lt HI.out.blk; omega)
        clear he hba hrc
        go_upto_region 6 with fail
        obtain ⟨wa, hwa⟩ : ∃ wa, wa = wr.alloc (.cells #[.string x.name, .int .i64 x.price, .int .i64 x.all, .int .i64 x.peak, .int .i64 x.sum] 137) := ⟨_, rfl⟩
        rw [← hwa] at HBA HRC HFA ⊢
        obtain ⟨b2, hb2⟩ : ∃ b2, b2 = wr.heap.size := ⟨_, rfl⟩
        rw [← hb2] at HBA HNE ⊢
        have hy0 : wa.cell? ⟨b2, 0, none⟩ = some (.string x.name) := (blk_cell HBA.out 0).trans rfl
        have hy1 : wa.cell? ⟨b2, 1, none⟩ = some (.int .i64 x.price) := (blk_cell HBA.out 1).trans rfl
        have hy2 : wa.cell? ⟨b2, 2, none⟩ = some (.int .i64 x.all) := (blk_cell HBA.out 2).trans rfl
        have hy3 : wa.cell? ⟨b2, 3, none⟩ = some (.int .i64 x.peak) := (blk_cell HBA.out 3).trans rfl
        have hy4 : wa.cell? ⟨b2, 4, none⟩ = some (.int .i64 x.sum) := (blk_cell HBA.out 4).trans rfl
        have hz0 : wa.cell? ⟨bx, 0, none⟩ = some (.string ⟨#[]⟩) := (blk_cell HRC.out 0).trans rfl
        have hz1 : wa.cell? ⟨bx, 1, none⟩ = some (.int .i64 0) := (blk_cell HRC.out 1).trans rfl
        have hz2 : wa.cell? ⟨bx, 2, none⟩ = some (.int .i64 0) := (blk_cell HRC.out 2).trans rfl
        have hz3 : wa.cell? ⟨bx, 3, none⟩ = some (.int .i64 0) := (blk_cell HRC.out 3).trans rfl
        have hz4 : wa.cell? ⟨bx, 4, none⟩ = some (.int .i64 0) := (blk_cell HRC.out 4).trans rfl
        have hf0 := blk_frozen HRC.out 0
        have hf1 := blk_frozen HRC.out 1
        have hf2 := blk_frozen HRC.out 2
        have hf3 := blk_frozen HRC.out 3
        have hf4 := blk_frozen HRC.out 4
        clear hwa hb2 hq0 hq1 hq2 hq3 hq4
        have hfin : (((((wa.setCell ⟨bx, 0, none⟩ (.string x.name)).setCell ⟨bx, 1, none⟩ (.int .i64 x.price)).setCell ⟨bx, 2, none⟩ (.int .i64 x.all)).setCell ⟨bx, 3, none⟩ (.int .i64 x.peak)).setCell ⟨bx, 4, none⟩ (.int .i64 x.sum)).heap[bx]? = some (.cells #[.string x.name, .int .i64 x.price, .int .i64 x.all, .int .i64 x.peak, .int .i64 x.sum] 137 (0, 0)) := by
          have := blk_set (blk_set (blk_set (blk_set (blk_set HRC.out 0 (.string x.name)) 1 (.int .i64 x.price)) 2 (.int .i64 x.all)) 3 (.int .i64 x.peak)) 4 (.int .i64 x.sum)
          simpa using this
        have HFIN := Aside0.mk hfin
        clear hfin
        go_wp2
        refine bodyPost_ret (results_cell_row rfl _ _ bx 137 #[.string x.name, .int .i64 x.price, .int .i64 x.all, .int .i64 x.peak, .int .i64 x.sum] (0, 0) _ rfl HFIN.out Try.underlying137 rfl (by kernel_rfl)) rfl ?_
        refine ⟨by rw [HEQ.out], ?_⟩
        have h1 := HI.out.fr.then_ HFA.out (fun _ h => .inl h)
        have hge : w.heap.size ≤ bx := by rw [HE.out]; exact Nat.le_refl _
        have h2 : Fr (fun k => k = bx) w _ := (((((h1.mono (S' := fun k => k = bx) (fun _ h => h.elim)).setCell (p := ⟨bx, 0, none⟩) (.inl rfl) (.string x.name)).setCell (p := ⟨bx, 1, none⟩) (.inl rfl) (.int .i64 x.price)).setCell (p := ⟨bx, 2, none⟩) (.inl rfl) (.int .i64 x.all)).setCell (p := ⟨bx, 3, none⟩) (.inl rfl) (.int .i64 x.peak)).setCell (p := ⟨bx, 4, none⟩) (.inl rfl) (.int .i64 x.sum)
        exact Fr.of_below (h2.to_below (fun k hk => by rw [hk]; exact hge)) _
      · have hb : (x.name.toList == s.toList) = false := by
          have : x.name.toList ≠ s.toList := fun h => he (by rw [ByteArray.toList_eq, ByteArray.toList_eq] at h; cases hx : x.name; cases s; rw [hx] at h; simp at h; rw [h])
          simpa using this
        have HEQ := Aside0.mk (show ofF R s (R.length - (i + 1)) (i + 1) = ofR R s from by rw [← HI.out.eq, HST.out, if_neg he])
        clear he
        go_wp2
        go_roundw
        case rel => exact ⟨i + 1, by omega, by go_num, ⟨⟨HI.out.fr.then_ ((Fr.refl wr no).alloc _) (fun _ h => .inl h), blk_fr HI.out.blk ((Fr.refl wr no).alloc _) (fun h => h), HEQ.out⟩⟩⟩
        case measure => simp [intOf]; omega
    · obtain rfl : i = R.length := by omega
      have HEQ := Aside0.mk (show ofR R s = zR from by rw [← HI.out.eq, Nat.sub_self]; rfl)
      have hz0 : wr.cell? ⟨bx, 0, none⟩ = some (.string ⟨#[]⟩) := (blk_cell HI.out.blk 0).trans rfl
      have hz1 : wr.cell? ⟨bx, 1, none⟩ = some (.int .i64 0) := (blk_cell HI.out.blk 1).trans rfl
      have hz2 : wr.cell? ⟨bx, 2, none⟩ = some (.int .i64 0) := (blk_cell HI.out.blk 2).trans rfl
      have hz3 : wr.cell? ⟨bx, 3, none⟩ = some (.int .i64 0) := (blk_cell HI.out.blk 3).trans rfl
      have hz4 : wr.cell? ⟨bx, 4, none⟩ = some (.int .i64 0) := (blk_cell HI.out.blk 4).trans rfl
      have hf0 := blk_frozen HI.out.blk 0
      have hf1 := blk_frozen HI.out.blk 1
      have hf2 := blk_frozen HI.out.blk 2
      have hf3 := blk_frozen HI.out.blk 3
      have hf4 := blk_frozen HI.out.blk 4
      have hfin : (((((wr.setCell ⟨bx, 0, none⟩ (.string ⟨#[]⟩)).setCell ⟨bx, 1, none⟩ (.int .i64 0)).setCell ⟨bx, 2, none⟩ (.int .i64 0)).setCell ⟨bx, 3, none⟩ (.int .i64 0)).setCell ⟨bx, 4, none⟩ (.int .i64 0)).heap[bx]? = some (.cells #[.string ⟨#[]⟩, .int .i64 0, .int .i64 0, .int .i64 0, .int .i64 0] 137 (0, 0)) := by
        have := blk_set (blk_set (blk_set (blk_set (blk_set HI.out.blk 0 (.string ⟨#[]⟩)) 1 (.int .i64 0)) 2 (.int .i64 0)) 3 (.int .i64 0)) 4 (.int .i64 0)
        simpa using this
      have HFIN := Aside0.mk hfin
      clear hfin
      go_wp2
      refine bodyPost_ret (results_cell_row rfl _ _ bx 137 #[.string ⟨#[]⟩, .int .i64 0, .int .i64 0, .int .i64 0, .int .i64 0] (0, 0) _ rfl HFIN.out Try.underlying137 rfl (by kernel_rfl)) rfl ?_
      refine ⟨by rw [HEQ.out]; rfl, ?_⟩
      have hge : w.heap.size ≤ bx := by rw [HE.out]; exact Nat.le_refl _
      have h2 : Fr (fun k => k = bx) w _ := (((((HI.out.fr.mono (S' := fun k => k = bx) (fun _ h => h.elim)).setCell (p := ⟨bx, 0, none⟩) (.inl rfl) (.string ⟨#[]⟩)).setCell (p := ⟨bx, 1, none⟩) (.inl rfl) (.int .i64 0)).setCell (p := ⟨bx, 2, none⟩) (.inl rfl) (.int .i64 0)).setCell (p := ⟨bx, 3, none⟩) (.inl rfl) (.int .i64 0)).setCell (p := ⟨bx, 4, none⟩) (.inl rfl) (.int .i64 0)
      exact Fr.of_below (h2.to_below (fun k hk => by rw [hk]; exact hge)) _
theorem hfd (W : World) (x : RV) : (Instr.field 137 (.agg #[.string x.name, .int .i64 x.price, .int .i64 x.all, .int .i64 x.peak, .int .i64 x.sum]) 4).run Try.prog W = .ok (.int .i64 x.sum) W := by kernel_rfl
theorem hfp (W : World) (x : RV) : (Instr.field 137 (.agg #[.string x.name, .int .i64 x.price, .int .i64 x.all, .int .i64 x.peak, .int .i64 x.sum]) 3).run Try.prog W = .ok (.int .i64 x.peak) W := by kernel_rfl
theorem hfa (W : World) (x : RV) : (Instr.field 137 (.agg #[.string x.name, .int .i64 x.price, .int .i64 x.all, .int .i64 x.peak, .int .i64 x.sum]) 2).run Try.prog W = .ok (.int .i64 x.all) W := by kernel_rfl
set_option maxRecDepth 100000 in
theorem sum_calls (w : World) (g : Nat) (v : Value) (base : Nat) (R : List RV) (ticks : Int) (s : ByteArray) (h : LT w g v base R ticks) (hl : R.length ≤ 1000000) :
    Calls Try.prog 60 #[.pointer (some ⟨g, 0, none⟩), .string s] w fun e w' => e = .returned (.int .i64 (ofR R s).sum) ∧ Fr no w w' := by
  have HH := Aside0.mk h
  have HL := Aside0.mk hl
  have hu137 := Try.underlying137
  have hfd1 := hfd
  clear h
  go_enter Try.func60, Try.ntmps60
  go_wp2_with (go_at_call 100; refine (of_calls _ g v base R ticks s HH.out HL.out).mono ?_; rintro e w' ⟨rfl, hf⟩; have HF := Aside0.mk hf; clear hf)
  go_ret
  exact ⟨rfl, HF.out⟩
set_option maxRecDepth 100000 in
theorem peak_calls (w : World) (g : Nat) (v : Value) (base : Nat) (R : List RV) (ticks : Int) (s : ByteArray) (h : LT w g v base R ticks) (hl : R.length ≤ 1000000) :
    Calls Try.prog 62 #[.pointer (some ⟨g, 0, none⟩), .string s] w fun e w' => e = .returned (.int .i64 (ofR R s).peak) ∧ Fr no w w' := by
  have HH := Aside0.mk h
  have HL := Aside0.mk hl
  have hu137 := Try.underlying137
  have hfd1 := hfp
  clear h
  go_enter Try.func62, Try.ntmps62
  go_wp2_with (go_at_call 100; refine (of_calls _ g v base R ticks s HH.out HL.out).mono ?_; rintro e w' ⟨rfl, hf⟩; have HF := Aside0.mk hf; clear hf)
  go_ret
  exact ⟨rfl, HF.out⟩
end Go.Proofs.Ytdpchfifaidamaa.L
