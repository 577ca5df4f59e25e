/- The ledger's New. No condition. -/
import Derived.Test.YtdpchfifaidamaaLc
import Derived.Deep.RegionLaw
import Derived.Deep.AppendLies
namespace Go.Proofs.Ytdpchfifaidamaa.L
open Go.RowKit Go.Maps Go.Proofs.YtdpchfifaidamaaW.PrintWords Go.Proofs.Ytdpchfifaidamaa.B Go.Proofs.Ytdpchfifaidamaa.U Go.Proofs.Ytdpchfifaidamaa.PLedgerTells
set_option linter.unusedVariables false
set_option linter.unusedSimpArgs false

theorem step_append_E {α : Type} {W : World} (E : ET α) (base : Nat) {ops : Array Oper} {o : Oper} {a : Act} {K : Act → World → Prop} {Q : Exit → Act → World → Prop} {E' : Prop} (hgd : o.guard = none) (s x : Operand) (ho : o.op = .call { callee := .builtin .append, args := #[s, x], argTypes := #[E.s, E.s] })
    (v : Value) (l : List α) (y : α) (k : Nat) (hs : a.eval s = v) (hx : a.eval x = .slice (some ⟨k, 0, none⟩) 1 1) (hk : W.heap[k]? = some (.cells (E.cells y).toArray E.e (0, 0))) (HO : EOwn E W base v l) (hbase : base ≤ W.heap.size) (hl : (l.length + 1) * E.bytes ≤ 140737488355328)
    (h : ∀ g c w1, EOwn E w1 base (.slice (some ⟨g, 0, none⟩) (l.length + 1) c) (l ++ [y]) → Fr (fun k => v.ownBlock = some k) W w1 → (v.ownBlock = some g ∨ g = W.heap.size) → K (a.put o.dst (.slice (some ⟨g, 0, none⟩) (l.length + 1) c)) w1) :
    if Region.wanted o (yielded ops a.tmps) = true then Oper.wp Try.prog o a W K Q else E' := by
  obtain ⟨i0, hi, hzz⟩ := Option.map_eq_some_iff.1 E.info
  simp only [Prod.mk.injEq] at hzz
  obtain ⟨hz0, hz1, hz2⟩ := hzz
  have hle : l.length + 1 ≤ 140737488355328 := Nat.le_trans (Nat.le_mul_of_pos_right _ E.bpos) hl
  refine step_append_lies W hgd s x E.s ho base E.e i0 _ E.sz E.bytes E.under hi hz0 hz1 hz2 E.zs E.pos v l.length (l.flatMap E.cells) hs HO ⟨k, 0, none⟩ 1 1 (E.cells y) hx (by rw [E.len, Nat.one_mul]) (fun j u hu => World.news_of_block hk j u (by simpa using hu)) (E.one y)
    (by omega) (by simp only [maxLen]; omega) hl hbase W.heap.size rfl ?_
  intro g c w1 hown hg hat _
  refine h g c w1 ?_ (.of_grown hg (fun k e => e.symm ▸ rfl)) hat
  unfold EOwn
  simpa using hown

def newRow (x : S76) : RV := ⟨x.f0, x.f4, 0, 0, 0⟩
structure NI (w wr : World) (g : Nat) (v : Value) (l : List S76) (i : Nat) : Prop where
  lt : LT wr g v w.heap.size ((l.take i).map newRow) 0
  fr : Fr no w wr
  g0 : w.heap.size ≤ g
def NewPost (w : World) (R : List RV) (e : Ending) (w' : World) : Prop :=
  ∃ g v, e = .returned (.tuple #[.pointer (some ⟨g, 0, none⟩), .int .i64 0]) ∧ LT w' g v w.heap.size R 0 ∧ Fr no w w' ∧ w.heap.size ≤ g
theorem new_no (w : World) (A : Option Addr) (c : Nat) (l : List S76) (hr : Kd.C k76 w A l.length l) (hc : l.length ≤ c) (hl : l.length ≤ 1000000) (hk : ∀ i, OkA (l.getD i z76)) (hb : groupsB l = false) :
    Calls Try.prog 55 #[.slice A l.length c] w fun e w' => e = .returned (.tuple #[.pointer none, .int .i64 12]) ∧ Fr no w w' := by
  have HR := Aside0.mk hr
  have HC := Aside0.mk hc
  have HL := Aside0.mk hl
  have HK := Aside0.mk hk
  have HB := Aside0.mk hb
  clear hr hc hl hk hb
  go_enter Try.func55, Try.ntmps55
  go_wp2_with (go_at_call 90; refine (U.groups_calls _ A c l HR.out HC.out HL.out HK.out).mono ?_; rintro e w1 ⟨rfl, hf⟩; rw [HB.out]; have HF := Aside0.mk hf; clear hf)
  go_ret2
  exact ⟨rfl, HF.out⟩
theorem fresh_own {w wr : World} {g : Nat} {v : Value} {l : List S76} {i : Nat} (h : NI w wr g v l i) {w' : World} (hk : Fr no wr w') : NI w w' g v l i :=
  ⟨h.lt.no hk, h.fr.then_ hk (fun _ h => .inl h), h.g0⟩
theorem NI.lay {w wa w3 : World} {g : Nat} {v v' : Value} {l : List S76} {i : Nat} {o : Obj} (h : NI w wa g v l i) (hf : Fr (fun k => v.ownBlock = some k) (wa.drew.alloc o) w3) (hb3 : w3.heap[g]? = some (.cells #[v, .int .i64 0, .bool true] 103 (0, 0))) (ho : EOwn E137 w3 w.heap.size v' ((l.take (i + 1)).map newRow)) :
    NI w (w3.setCell ⟨g, 0, none⟩ v') g v' l (i + 1) := by
  have hfs : Fr (fun k => k = g) w3 (w3.setCell ⟨g, 0, none⟩ v') := (Fr.refl w3 (fun k => k = g)).setCell (p := ⟨g, 0, none⟩) (.inl rfl) _
  have h3 : Fr no w w3 := (h.fr.then_ ((Fr.refl wa no).drew.alloc o) (fun _ h => .inl h)).then_ hf (fun k hk => .inr (h.lt.own.base_le hk))
  refine ⟨⟨blk_set hb3 0 v', ho.fr hfs ?_, Nat.le_trans h3.size hfs.size⟩, h3.then_ hfs (fun k hk => .inr (by rw [hk]; exact h.g0)), h.g0⟩
  intro k hk e
  obtain ⟨cs, hc⟩ := ho.cells hk
  rw [e, hb3] at hc
  cases hc
set_option maxRecDepth 100000 in
set_option maxHeartbeats 4000000 in
theorem new_calls (w : World) (A : Option Addr) (c : Nat) (l : List S76) (hr : Kd.C k76 w A l.length l) (hc : l.length ≤ c) (hl : l.length ≤ 1000000) (hk : ∀ i, OkA (l.getD i z76)) (hb : groupsB l = true) :
    Calls Try.prog 55 #[.slice A l.length c] w (NewPost w (l.map newRow)) := by
  have HR := Aside0.mk hr
  have HC := Aside0.mk hc
  have HL := Aside0.mk hl
  have HK := Aside0.mk hk
  have HB := Aside0.mk hb
  have hu76 := Try.underlying76
  have hu103 := Try.underlying103
  have hu137 := Try.underlying137
  clear hr hc hk hb
  go_enter Try.func55, Try.ntmps55
  go_wp2_with (go_at_call 90; refine (U.groups_calls _ A c l HR.out HC.out HL.out HK.out).mono ?_; rintro e w1 ⟨rfl, hf⟩; rw [HB.out]; have HF := Aside0.mk hf; clear hf)
  obtain ⟨g, hg⟩ : ∃ g, g = w1.heap.size := ⟨_, rfl⟩
  rw [← hg]
  have HG := Aside0.mk hg
  clear hg
  go_loopw [6, 14] (fun v6 v14 wr => ∃ (i : Nat) (v : Value), i ≤ l.length ∧ v14 = .int .i64 i ∧ Aside0 (NI w wr g v l i)) (fun _ v14 _ => l.length - (intOf v14).toNat)
  case atStart =>
    refine ⟨0, .slice none 0 0, by omega, rfl, ⟨⟨⟨?_, EOwn.nil _ _, ?_⟩, HF.out.alloc _, ?_⟩⟩⟩
    · rw [HG.out]; exact heap_alloc_new w1 _
    · exact (HF.out.alloc _).size
    · rw [HG.out]; exact HF.out.size
  case round =>
    obtain ⟨i, v, hi, rfl, HI⟩ := hrel
    by_cases hlt : i < l.length
    · obtain ⟨ad, A10, c10, A11, c11, e, hq0, hq1, hq2, hq3, hq4, hq5, hq6, hq7, hq8, hq9, hq10, hq11, hq12, hq13, hq14, l10, g10, l11, g11⟩ := at_T76 HR.out (i : Int) (by omega) (by omega)
      cases e
      rw [Int.toNat_natCast] at hq0 hq1 hq2 hq3 hq4 hq5 hq6 hq7 hq8 hq9 hq10 hq11 hq12 hq13 hq14
      have e0 : rd_T76 l (i : Int) = l.getD i z76 := by unfold rd_T76; simp
      rw [e0] at hq0 hq1 hq2 hq3 hq4 hq5 hq6 hq7 hq8 hq9 hq10 hq11 hq12 hq13 hq14 l10 g10 l11 g11
      obtain ⟨x, hx⟩ : ∃ x, x = l.getD i z76 := ⟨_, rfl⟩
      rw [← hx] at hq0 hq1 hq2 hq3 hq4 hq5 hq6 hq7 hq8 hq9 hq10 hq11 hq12 hq13 hq14 l10 g10 l11 g11
      have hp0 := cell_fr hq0 HI.out.fr (fun h => h)
      have hp1 := cell_fr hq1 HI.out.fr (fun h => h)
      have hp2 := cell_fr hq2 HI.out.fr (fun h => h)
      have hp3 := cell_fr hq3 HI.out.fr (fun h => h)
      have hp4 := cell_fr hq4 HI.out.fr (fun h => h)
      have hp5 := cell_fr hq5 HI.out.fr (fun h => h)
      have hp6 := cell_fr hq6 HI.out.fr (fun h => h)
      have hp7 := cell_fr hq7 HI.out.fr (fun h => h)
      have hp8 := cell_fr hq8 HI.out.fr (fun h => h)
      have hp9 := cell_fr hq9 HI.out.fr (fun h => h)
      have hp10 := cell_fr hq10 HI.out.fr (fun h => h)
      have hp11 := cell_fr hq11 HI.out.fr (fun h => h)
      have hp12 := cell_fr hq12 HI.out.fr (fun h => h)
      have hp13 := cell_fr hq13 HI.out.fr (fun h => h)
      have hp14 := cell_fr hq14 HI.out.fr (fun h => h)
      have HNX := Aside0.mk (show (l.take (i + 1)).map newRow = (l.take i).map newRow ++ [⟨x.f0, x.f4, 0, 0, 0⟩] from by
        rw [List.take_succ_eq_append_getElem hlt, List.map_append, hx]
        simp [newRow, List.getD_eq_getElem?_getD, List.getElem?_eq_getElem hlt])
      have hba := heap_alloc_new wr (.cells #[.string x.f0, .int .i64 x.f1, .int .i64 x.f2, .string x.f3.f0, .string x.f3.f1, .int .i64 x.f3.f2.f0, .int .i64 x.f3.f2.f1, .int .i64 x.f3.f2.f2, .int .i64 x.f3.f2.f3, .int .i64 x.f3.f2.f4, .slice A10 x.f3.f3.length c10, .slice A11 x.f3.f4.length c11, .bool x.f3.f5, .int .i64 x.f4, .int .i64 x.f5] 76)
      have HI2 := Aside0.mk (fresh_own HI.out ((Fr.refl wr no).alloc (.cells #[.string x.f0, .int .i64 x.f1, .int .i64 x.f2, .string x.f3.f0, .string x.f3.f1, .int .i64 x.f3.f2.f0, .int .i64 x.f3.f2.f1, .int .i64 x.f3.f2.f2, .int .i64 x.f3.f2.f3, .int .i64 x.f3.f2.f4, .slice A10 x.f3.f3.length c10, .slice A11 x.f3.f4.length c11, .bool x.f3.f5, .int .i64 x.f4, .int .i64 x.f5] 76)))
      have HBA := Aside0.mk hba
      obtain ⟨Av, cv, hv, hlc, hcm, -⟩ := HI.out.lt.own.form
      have hlen : ((l.take i).map newRow).length = i := by rw [List.length_map, List.length_take]; omega
      have HLEN := Aside0.mk hlen
      have HLB := Aside0.mk (show (((l.take i).map newRow).length + 1) * E137.bytes ≤ 140737488355328 from by rw [hlen]; show (i + 1) * 48 ≤ _; omega)
      rw [hlen] at hv
      subst hv
      clear hq0 hq1 hq2 hq3 hq4 hq5 hq6 hq7 hq8 hq9 hq10 hq11 hq12 hq13 hq14 l10 g10 l11 g11 e0 hx hba hlc hcm hlen
      go_upto_region 7 with fail
      obtain ⟨wa, hwa⟩ : ∃ wa, wa = wr.alloc (.cells #[.string x.f0, .int .i64 x.f1, .int .i64 x.f2, .string x.f3.f0, .string x.f3.f1, .int .i64 x.f3.f2.f0, .int .i64 x.f3.f2.f1, .int .i64 x.f3.f2.f2, .int .i64 x.f3.f2.f3, .int .i64 x.f3.f2.f4, .slice A10 x.f3.f3.length c10, .slice A11 x.f3.f4.length c11, .bool x.f3.f5, .int .i64 x.f4, .int .i64 x.f5] 76) := ⟨_, rfl⟩
      rw [← hwa] at HBA HI2 ⊢
      obtain ⟨bx, hbx⟩ : ∃ bx, bx = wr.heap.size := ⟨_, rfl⟩
      rw [← hbx] at HBA ⊢
      have hy0 : wa.cell? ⟨bx, 0, none⟩ = some (.string x.f0) := (blk_cell HBA.out 0).trans rfl
      have hy13 : wa.cell? ⟨bx, 13, none⟩ = some (.int .i64 x.f4) := (blk_cell HBA.out 13).trans rfl
      obtain ⟨hg0, -, -⟩ := HI2.out.lt.cell
      clear hwa hbx hp0 hp1 hp2 hp3 hp4 hp5 hp6 hp7 hp8 hp9 hp10 hp11 hp12 hp13 hp14
      have hba2 := cell_fr hg0 ((Fr.refl wa no).alloc (.cells #[.string x.f0, .int .i64 x.f4, .int .i64 0, .int .i64 0, .int .i64 0] 137)) (fun h => h)
      go_region_law (first
        | (refine step_append_E E137 w.heap.size rfl _ _ rfl (.slice Av i cv) ((l.take i).map newRow) ⟨x.f0, x.f4, 0, 0, 0⟩ wa.heap.size rfl rfl (heap_alloc_new _ _) ((HI2.out.lt.no ((Fr.refl wa no).drew.alloc _)).own) ?_ HLB.out ?_; (exact Nat.le_trans HI2.out.lt.base_le (by simp)); intro g2 c2 w3 ho3 hf3 hat3; have HO3 := Aside0.mk ho3; have HF3 := Aside0.mk hf3; have hb3 := blk_fr (HI2.out.lt.no ((Fr.refl wa no).drew.alloc _)).blk hf3 HI2.out.lt.gv; have HB3 := Aside0.mk hb3; have hz3 : w3.frozen? ⟨g, 0, none⟩ = false := blk_frozen hb3 0; have hz4 : w3.cell? ⟨g, 0, none⟩ = some (.slice Av i cv) := (blk_cell hb3 0).trans rfl; clear ho3 hf3 hat3 hb3))
      all_goals
        go_wp2
        go_roundw
        case rel => exact ⟨i + 1, _, by omega, by go_num, ⟨NI.lay HI2.out HF3.out HB3.out (by rw [HNX.out]; have := HO3.out; rwa [show ((l.take i).map newRow).length = i from HLEN.out] at this)⟩⟩
        case measure => simp [intOf]; omega
    · obtain rfl : i = l.length := by omega
      go_wp2
      go_ret2
      have := HI.out
      exact ⟨g, v, rfl, by have := HI.out.lt; rwa [List.take_length] at this, HI.out.fr, HI.out.g0⟩
end Go.Proofs.Ytdpchfifaidamaa.L
