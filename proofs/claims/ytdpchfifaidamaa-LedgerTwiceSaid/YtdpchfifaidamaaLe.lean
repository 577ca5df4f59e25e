/- The ledger's Add. No condition. -/
import Derived.Test.YtdpchfifaidamaaLd
import Derived.Deep.RegionHeld3
namespace Go.Proofs.Ytdpchfifaidamaa.L
open Go.RowKit Go.Maps Go.Proofs.YtdpchfifaidamaaW.PrintWords Go.Proofs.Ytdpchfifaidamaa.B Go.Proofs.Ytdpchfifaidamaa.U Go.Proofs.Ytdpchfifaidamaa.PLedgerTells
set_option linter.unusedVariables false
set_option linter.unusedSimpArgs false

/-- how many of a group count, of the first ones. -/
def hit (x : S135) (s : ByteArray) : Nat := if x.f1 = s ∧ x.f2 ≠ 3 then 1 else 0
def cN (l : List S135) (s : ByteArray) : Nat → Nat
  | 0 => 0
  | n + 1 => cN l s n + hit (l.getD n z135) s
theorem cN_le (l : List S135) (s : ByteArray) : ∀ n, cN l s n ≤ n
  | 0 => Nat.le_refl _
  | n + 1 => by have := cN_le l s n; unfold cN hit; split <;> omega
def cF (l : List S135) (n : Nat) (s : ByteArray) : Option Int := if cN l s n = 0 then none else some (cN l s n : Nat)
theorem cF_get (l : List S135) (n : Nat) (s : ByteArray) : (cF l n s).getD 0 = (cN l s n : Nat) := by
  unfold cF
  split
  · rename_i h; rw [h]; rfl
  · rfl
theorem cF_zero (l : List S135) (s : ByteArray) : cF l 0 s = none := rfl
theorem cF_skip {l : List S135} {n : Nat} (h : (l.getD n z135).f2 = 3) (s : ByteArray) : cF l n s = cF l (n + 1) s := by
  unfold cF
  have : cN l s (n + 1) = cN l s n := by show cN l s n + hit _ s = _; unfold hit; rw [if_neg (fun e => e.2 h), Nat.add_zero]
  rw [this]
theorem cF_take {l : List S135} {n : Nat} (h : (l.getD n z135).f2 ≠ 3) (s : ByteArray) : upd (cF l n) (l.getD n z135).f1 ((cN l (l.getD n z135).f1 n : Nat) + 1 : Int) s = cF l (n + 1) s := by
  unfold upd
  by_cases e : s = (l.getD n z135).f1
  · subst e
    rw [if_pos rfl]
    have : cN l (l.getD n z135).f1 (n + 1) = cN l (l.getD n z135).f1 n + 1 := by show cN l _ n + hit _ _ = _; unfold hit; rw [if_pos ⟨rfl, h⟩]
    unfold cF
    rw [this, if_neg (by omega)]
    rfl
  · rw [if_neg e]
    have : cN l s (n + 1) = cN l s n := by show cN l s n + hit _ s = _; unfold hit; rw [if_neg (fun e' => e e'.1.symm), Nat.add_zero]
    unfold cF
    rw [this]
def addR (l : List S135) (R : List RV) : List RV := R.map (fun x => moreR x (cN l x.name l.length))
/-- the rows, the first k of them changed. -/
def addK (l : List S135) (R : List RV) : Nat → List RV
  | 0 => R
  | k + 1 => (addK l R k).set k (moreR (R.getD k zR) (cN l (R.getD k zR).name l.length))
theorem addK_len (l : List S135) (R : List RV) : ∀ k, (addK l R k).length = R.length
  | 0 => rfl
  | k + 1 => by unfold addK; rw [List.length_set]; exact addK_len l R k
theorem addK_get (l : List S135) (R : List RV) : ∀ (k j : Nat), (addK l R k)[j]? = if j < k then (R[j]?).map (fun x => moreR x (cN l x.name l.length)) else R[j]?
  | 0, j => by simp [addK]
  | k + 1, j => by
    unfold addK
    rw [List.getElem?_set, addK_len]
    by_cases h : k = j
    · subst h
      rw [if_pos rfl, if_pos (show k < k + 1 by omega)]
      by_cases hk : k < R.length
      · rw [if_pos hk, List.getElem?_eq_getElem hk, getD_lt hk]
        rfl
      · rw [if_neg hk, List.getElem?_eq_none (by omega)]
        rfl
    · rw [if_neg h, addK_get l R k j]
      by_cases h2 : j < k
      · rw [if_pos h2, if_pos (by omega)]
      · rw [if_neg h2, if_neg (by omega)]
theorem addK_all (l : List S135) (R : List RV) : addK l R R.length = addR l R := by
  apply List.ext_getElem?
  intro j
  rw [addK_get]
  unfold addR
  rw [List.getElem?_map]
  by_cases h : j < R.length
  · rw [if_pos h]
  · rw [if_neg h, List.getElem?_eq_none (by omega)]
    rfl
theorem wf_small {n : Int} (h0 : 0 ≤ n) (h1 : n ≤ 9223372036854775807) : (Lit.int .i64 n).wf = true := by
  simp [Lit.wf, IntKind.min, IntKind.max, IntKind.signed, IntKind.bits]
  omega
def SA (g : Nat) (v : Value) (k : Nat) : Prop := k = g ∨ v.ownBlock = some k
theorem own_some {w : World} {base : Nat} {v : Value} {R : List RV} (h : EOwn E137 w base v R) (h0 : 0 < R.length) : ∃ gb c, v = .slice (some ⟨gb, 0, none⟩) R.length c := by
  rcases h.2 with ⟨he, hn⟩ | ⟨g', cap, cur, he, _⟩
  · omega
  · exact ⟨g', cap, he⟩
structure A1 (w wr : World) (g : Nat) (v : Value) (base : Nat) (R : List RV) (ticks : Int) (b : Nat) (l : List S135) (i : Nat) : Prop where
  lt : LT wr g v base R ticks
  map : MapIs wr b i (cF l i)
  fr : Fr (SA g v) w wr
  b0 : w.heap.size ≤ b
theorem A1.no {w wr w' : World} {g : Nat} {v : Value} {base : Nat} {R : List RV} {ticks : Int} {b : Nat} {l : List S135} {i : Nat} (h : A1 w wr g v base R ticks b l i) (hk : Fr no wr w') : A1 w w' g v base R ticks b l i :=
  ⟨h.lt.no hk, h.map.fr hk (fun h => h), h.fr.then_ hk (fun _ h => h.elim), h.b0⟩
def AddPost (w : World) (g : Nat) (v : Value) (base : Nat) (R : List RV) (ticks : Int) (e : Ending) (w' : World) : Prop :=
  e = .returned (.tuple #[]) ∧ LT w' g v base R ticks ∧ Fr (SA g v) w w'
theorem LT.sa_lt {w : World} {g base : Nat} {v : Value} {R : List RV} {ticks : Int} (h : LT w g v base R ticks) (k : Nat) (hk : SA g v k) : k < w.heap.size := by
  rcases hk with rfl | hk
  · exact blk_lt h.blk
  · exact h.own.lt hk
set_option maxRecDepth 100000 in
set_option maxHeartbeats 4000000 in
theorem add_calls (w : World) (g : Nat) (v : Value) (base : Nat) (R : List RV) (ticks : Int) (A : Option Addr) (c : Nat) (l : List S135) (h : LT w g v base R ticks) (ht : 0 ≤ ticks ∧ ticks ≤ 1000000) (hR : R.length ≤ 1000000) (hl : l.length ≤ 1000000) (hc : l.length ≤ c)
    (hA : ∀ W, Fr (SA g v) w W → Kd.C k135 W A l.length l) (hs : ∀ i, (l.getD i z135).f1.size ≤ maxLen) (hn : ∀ i, (R.getD i zR).name.size ≤ maxLen) (hok : ∀ i, OkR (R.getD i zR)) :
    Calls Try.prog 57 #[.pointer (some ⟨g, 0, none⟩), .slice A l.length c] w (AddPost w g v base (addR l R) (ticks + 1)) := by
  have HH := Aside0.mk h
  have HA := Aside0.mk hA
  have HS := Aside0.mk hs
  have HN := Aside0.mk hn
  have HOK := Aside0.mk hok
  have HR := Aside0.mk hR
  have HL := Aside0.mk hl
  have hmm := @run_makeMap Try.prog
  have hu135 := Try.underlying135
  have hu137 := Try.underlying137
  obtain ⟨hc0, hc1, hc2⟩ := h.cell
  have hz1 := blk_frozen h.blk 1
  obtain ⟨ht0, ht1⟩ := ht
  clear h hA hs hn hok hR hc
  go_enter Try.func57, Try.ntmps57
  go_upto_region 2 with (first
    | (go_at_call 98; refine (there_calls _ g true hc2).mono ?_; rintro e w' ⟨rfl, rfl⟩))
  have hfs : Fr (fun k => k = g) w (w.setCell ⟨g, 1, none⟩ (.int .i64 (ticks + 1))) := (Fr.refl w (fun k => k = g)).setCell (p := ⟨g, 1, none⟩) (.inl rfl) _
  obtain ⟨w1, hw1⟩ : ∃ w1, w1 = w.setCell ⟨g, 1, none⟩ (.int .i64 (ticks + 1)) := ⟨_, rfl⟩
  have hlt1 : LT w1 g v base R (ticks + 1) := by
    rw [hw1]
    refine ⟨blk_set HH.out.blk 1 _, HH.out.own.fr hfs (fun k hk e => HH.out.gv (by rw [hk, e])), Nat.le_trans HH.out.base_le hfs.size⟩
  rw [← hw1] at hfs ⊢
  have HT1 := Aside0.mk hlt1
  have HF1 := Aside0.mk (hfs.mono (S' := SA g v) (fun k hk => .inl hk))
  clear hw1 hlt1 hfs hc0 hc1 hc2 hz1
  go_wp2
  obtain ⟨b, hb⟩ : ∃ b, b = w1.heap.size := ⟨_, rfl⟩
  rw [← hb]
  have HB := Aside0.mk hb
  clear hb
  go_loopw [6, 21] (fun v6 v21 wr => ∃ i : Nat, i ≤ l.length ∧ v21 = .int .i64 i ∧ Aside0 (A1 w wr g v base R (ticks + 1) b l i)) (fun _ v21 _ => l.length - (intOf v21).toNat)
  case atStart => exact ⟨0, by omega, rfl, ⟨⟨HT1.out.no ((Fr.refl w1 no).alloc _), by rw [HB.out]; exact (MapIs.made w1).congr (fun s _ => (cF_zero l s).symm), HF1.out.alloc _, by rw [HB.out]; exact HF1.out.size⟩⟩⟩
  case round =>
    obtain ⟨i, hi, rfl, HI⟩ := hrel
    by_cases hlt : i < l.length
    · obtain ⟨ad, e, hq0, hq1, hq2, hq3, hq4⟩ := at_T135 (HA.out wr HI.out.fr) (i : Int) (by omega) (by omega)
      cases e
      rw [Int.toNat_natCast] at hq0 hq1 hq2 hq3 hq4
      have e0 : rd_T135 l (i : Int) = l.getD i z135 := by unfold rd_T135; simp
      rw [e0] at hq0 hq1 hq2 hq3 hq4
      obtain ⟨x, hx⟩ : ∃ x, x = l.getD i z135 := ⟨_, rfl⟩
      rw [← hx] at hq0 hq1 hq2 hq3 hq4
      have HX := Aside0.mk hx
      have HKS := Aside0.mk (show x.f1.size ≤ maxLen from hx ▸ HS.out i)
      obtain ⟨bx, hbx⟩ : ∃ bx, bx = wr.heap.size := ⟨_, rfl⟩
      have hba := heap_alloc_new wr (.cells #[.string x.f0, .string x.f1, .int .i64 x.f2, .int .i64 x.f3, .int .i64 x.f4] 135)
      rw [← hbx] at hba
      have HBX := Aside0.mk hbx
      have HBA := Aside0.mk hba
      have HI2 := Aside0.mk (HI.out.no ((Fr.refl wr no).alloc (.cells #[.string x.f0, .string x.f1, .int .i64 x.f2, .int .i64 x.f3, .int .i64 x.f4] 135)))
      clear e0 hx hba hbx
      by_cases h3 : x.f2 = 3
      · have hb3 : (x.f2 != 3) = false := by simp [h3]
        have HSK := Aside0.mk (fun s => cF_skip (l := l) (n := i) (by rw [← HX.out]; exact h3) s)
        clear h3
        go_wp2
        go_roundw
        case rel => exact ⟨i + 1, by omega, by go_num, ⟨⟨HI2.out.lt, (HI2.out.map.mono (by omega)).congr (fun s _ => HSK.out s), HI2.out.fr, HI2.out.b0⟩⟩⟩
        case measure => simp [intOf]; omega
      · have hb3 : (x.f2 != 3) = true := by simp [h3]
        have HTK := Aside0.mk (fun s => cF_take (l := l) (n := i) (by rw [← HX.out]; exact h3) s)
        rw [← HX.out] at HTK
        have hcn := cN_le l x.f1 i
        obtain ⟨cv, hcv⟩ : ∃ cv, cv = cN l x.f1 i := ⟨_, rfl⟩
        have HG := Aside0.mk (show (cF l i x.f1).getD 0 = (cv : Nat) from by rw [hcv]; exact cF_get l i x.f1)
        rw [← hcv] at hcn HTK
        have HWF := Aside0.mk (show (Lit.int .i64 ((cv : Int) + 1)).wf = true from wf_small (by omega) (by omega))
        clear h3 hcv
        go_wp2_with (first
          | (at_lookup; refine wpL_lookup rfl _ _ rfl rfl HI2.out.map x.f1 rfl HKS.out ?_; rw [HG.out])
          | (at_mapUpdate; refine wpL_update rfl _ _ _ rfl rfl HI2.out.map (by have := HL.out; simp only [maxLen]; omega) x.f1 rfl HKS.out ((cv : Int) + 1) rfl HWF.out ?_; intro w2 hm2 hf2 _; have HM2 := Aside0.mk hm2; have HF2 := Aside0.mk hf2; clear hm2 hf2))
        go_roundw
        case rel => exact ⟨i + 1, by omega, by go_num, ⟨⟨HI2.out.lt.fr HF2.out (fun e => by have h1 := HH.out.sa_lt g (.inl rfl); have h2 := HI2.out.b0; omega) (fun k hk e => by have h1 := HH.out.sa_lt k (.inr hk); have h2 := HI2.out.b0; omega), HM2.out.congr (fun s _ => HTK.out s), HI2.out.fr.then_ HF2.out (fun k hk => .inr (by rw [hk]; exact HI2.out.b0)), HI2.out.b0⟩⟩⟩
        case measure => simp [intOf]; omega
    · obtain rfl : i = l.length := by omega
      obtain ⟨Av, cv, hv, -, -, -⟩ := HI.out.lt.own.form
      subst hv
      obtain ⟨hg0, -, -⟩ := HI.out.lt.cell
      obtain ⟨wo, hwo⟩ : ∃ wo, wo = wr := ⟨_, rfl⟩
      have HM0 := Aside0.mk HI.out.map
      have HL0 := Aside0.mk HI.out.lt
      have HF0 := Aside0.mk HI.out.fr
      have HB0 := Aside0.mk HI.out.b0
      have hRl : R.length ≤ 1000000 := HR.out
      rw [← hwo] at HM0 HL0 HF0 hg0 ⊢
      clear HI hwo
      go_wp2
      clear hg0
      go_loopw [7, 39] (fun v7 v39 wr => ∃ k : Nat, k ≤ R.length ∧ v39 = .int .i64 k ∧ Aside0 (LT wr g (.slice Av R.length cv) base (addK l R k) (ticks + 1)) ∧ Aside0 (Fr (SA g (.slice Av R.length cv)) wo wr)) (fun _ v39 _ => R.length - (intOf v39).toNat)
      case atStart => exact ⟨0, by omega, rfl, HL0, ⟨Fr.refl _ _⟩⟩
      case round =>
        obtain ⟨k, hk, rfl, HLT, HFR⟩ := hrel
        by_cases hlt2 : k < R.length
        · obtain ⟨gb, c2, he⟩ := own_some HLT.out.own (by rw [addK_len]; omega)
          rw [addK_len] at he
          injection he with he1 he2 he3
          subst he1
          subst he3
          have hkl : k < (addK l R k).length := by rw [addK_len]; exact hlt2
          have hgk : (addK l R k)[k] = R.getD k zR := by
            have h1 := addK_get l R k k
            rw [if_neg (by omega), List.getElem?_eq_getElem hkl, List.getElem?_eq_getElem hlt2] at h1
            rw [Option.some.inj h1, getD_lt hlt2]
          have HOWN := Aside0.mk (show EOwn E137 wr base (.slice (some ⟨gb, 0, none⟩) (addK l R k).length cv) (addK l R k) from by rw [addK_len]; exact HLT.out.own)
          obtain ⟨hr0, -, -, -, -⟩ := rv_cells HLT.out.own k hkl
          rw [hgk] at hr0
          obtain ⟨x, hx⟩ : ∃ x, x = R.getD k zR := ⟨_, rfl⟩
          rw [← hx] at hr0 hgk
          have HGK := Aside0.mk hgk
          have HOX := Aside0.mk (show OkR x from hx ▸ HOK.out k)
          have HNX := Aside0.mk (show x.name.size ≤ maxLen from hx ▸ HN.out k)
          have HST := Aside0.mk (show addK l R (k + 1) = (addK l R k).set k (moreR x (cN l x.name l.length)) from by rw [hx]; rfl)
          obtain ⟨hg0, -, -⟩ := HLT.out.cell
          have hbne : ¬ SA g (.slice (some ⟨gb, 0, none⟩) R.length cv) b := fun e => by have h1 := HH.out.sa_lt b e; have h2 := HB0.out; omega
          have HMW := Aside0.mk (HM0.out.fr HFR.out hbne)
          obtain ⟨cn, hcn⟩ : ∃ cn, cn = cN l x.name l.length := ⟨_, rfl⟩
          have HCL := Aside0.mk (show cn ≤ 1000000 from by rw [hcn]; have := cN_le l x.name l.length; have := HL.out; omega)
          rw [← hcn] at HST
          have HG0 := Aside0.mk hg0
          have HR0 := Aside0.mk hr0
          have HLK := Aside0.mk (show ∀ W, Fr (fun j => j = gb) wr W → (Instr.lookup 65 (.map (some b)) (.string x.name) false).run Try.prog W = .ok (.int .i64 cn) W from fun W h => by
            have := lookup_run (HMW.out.fr h (fun e => hbne (.inr (by rw [e]; rfl)))) x.name HNX.out
            rw [cF_get, ← hcn] at this
            exact this)
          have HC99 := Aside0.mk (show ∀ W, EOwn E137 W base (.slice (some ⟨gb, 0, none⟩) (addK l R k).length cv) (addK l R k) → Calls Try.prog 99 #[.pointer (some ⟨gb, k * 5, none⟩), .int .i64 (cn : Nat)] W (MorePost W base gb cv (addK l R k) k (moreR x cn)) from fun W h => by
            have := more_calls W base gb cv (addK l R k) h k hkl cn HCL.out (HGK.out ▸ HOX.out)
            rw [HGK.out] at this
            exact this)
          have hggb : ¬ g = gb := fun e => HLT.out.gv (by rw [e]; rfl)
          have HGG := Aside0.mk hggb
          clear hx hgk hcn hbne HMW hggb
          go_upto_region 12 with fail
          go_region_held3 (fun W => W.cell? ⟨g, 0, none⟩ = some (.slice (some ⟨gb, 0, none⟩) R.length cv) ∧ W.cell? ⟨gb, k * 5, none⟩ = some (.string x.name) ∧ (Instr.lookup 65 (.map (some b)) (.string x.name) false).run Try.prog W = .ok (.int .i64 cn) W) (first
            | exact ⟨HG0.out, HR0.out, HLK.out _ (Fr.refl _ _).drew⟩
            | exact ⟨cell_fr HG0.out HMF.out HGG.out, (HMI.out.cells hkl).1, HLK.out _ HMF.out⟩)
            (first
            | (go_at_call 99; refine (HC99.out _ (EOwn.drewN HOWN.out 1)).mono ?_; rintro e w3 ⟨rfl, hmi⟩; have HMI := Aside0.mk hmi; have HMF := Aside0.mk (((Fr.refl wr (fun j => j = gb)).drew).then_ hmi.fr (fun _ h => .inl h)); clear hmi))
          go_wp2
          go_roundw
          case rel =>
            refine ⟨k + 1, by omega, by go_num, ⟨⟨blk_fr HLT.out.blk HMF.out HGG.out, ?_, Nat.le_trans HLT.out.base_le HMF.out.size⟩⟩, ⟨HFR.out.then_ HMF.out (fun j hj => .inl (.inr (by rw [hj]; rfl)))⟩⟩
            rw [HST.out]
            have := HMI.out.own
            rw [addK_len] at this
            exact this
          case measure => simp [intOf]; omega
        · obtain rfl : k = R.length := by omega
          go_wp2
          go_end0
          refine ⟨rfl, ?_, HF0.out.then_ HFR.out (fun k hk => .inl hk)⟩
          have := HLT.out
          rw [addK_all] at this
          exact this
end Go.Proofs.Ytdpchfifaidamaa.L
