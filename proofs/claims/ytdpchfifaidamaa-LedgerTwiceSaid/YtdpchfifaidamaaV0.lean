/- After the kit's print of LedgerTells, part 0: same definitions and proofs, fewer words imported (wip/gen_v.py). No condition. -/
import Derived.Test.YtdpchfifaidamaaProg
import Derived.Below
import Derived.Deep.Draws
import Derived.Deep.AppendLies
import Derived.Maps.AppendAt
import Derived.OwnWalk
import Derived.Laws.BytesArg
import Derived.Laws.MakeOwn
import Derived.Laws.OwnMore
import Derived.Deep.OwnRows
import Derived.Tactics
import Derived.Lib.ConvBytes
import Derived.Laws.Slices
import Derived.WalkKit
import Derived.KernelRfl
import Derived.RowKit3
import Derived.Deep.LoopGhost
import Derived.Deep.QuietTactic
import Derived.BigQuiet
import Derived.WideLaws
import Derived.Deep.DeepCutAuto
import Derived.Deep.CutBlock
import Derived.Deep.RegionHeld3
import Derived.Laws.Rows
import Derived.Lib.AppendStr
import Derived.ArgAppend
import Derived.Laws.IdiomCopy
import Derived.OrdersHeld
import Derived.Laws.BitsLemmas
import Derived.RowKit
import Derived.Test.YtdpchfifaidamaaWWords
import Derived.Test.YtdpchfifaidamaaWLast
import Derived.Test.YtdpchfifaidamaaWTab
import Derived.Test.YtdpchfifaidamaaWEqStruct
import Derived.Test.YtdpchfifaidamaaWGuard
namespace Go.Proofs.Ytdpchfifaidamaa.PLedgerTells
open Go.RowKit Go.Proofs.YtdpchfifaidamaaW.PrintWords Go.Proofs.YtdpchfifaidamaaW.PrintLast
set_option linter.unusedVariables false
set_option linter.unusedSimpArgs false



def errW : Option Int → Value
  | none => .nilIface
  | some c => .iface 0 (.int .i64 c)
theorem errW_none : errW none = .nilIface := rfl
theorem errW_some (c : Int) : errW (some c) = .iface 0 (.int .i64 c) := rfl

-- the values' own types
/-! #### struct type 83 -/
structure S83 where
  f0 : ByteArray
  f1 : ByteArray
def z83 : S83 := ⟨(⟨#[]⟩ : ByteArray), (⟨#[]⟩ : ByteArray)⟩
def k83 : Kd S83 := Kd.iso (Kd.pair Kd.string Kd.string) (fun x : S83 => (x.f0, x.f1))
theorem k83_open {w : World} {x : S83} {cs : List Value} (h : k83.K w x cs) : cs = [.string x.f0, .string x.f1] := by
  obtain ⟨_, _, rfl, rfl, rfl⟩ := h
  exact rfl
theorem k83_openM {w : World} {base : Nat} {ok : Nat → Prop} {x : S83} {cs : List Value} (h : k83.M w base ok x cs) : cs = [.string x.f0, .string x.f1] := by
  obtain ⟨_, _, rfl, rfl, rfl⟩ := h
  exact rfl
theorem k83_mk (w : World) (x : S83)  : k83.K w x [.string x.f0, .string x.f1] := ⟨[.string x.f0], [.string x.f1], rfl, rfl, rfl⟩
theorem k83_mkM (w : World) (base : Nat) (ok : Nat → Prop) (x : S83)  : k83.M w base ok x [.string x.f0, .string x.f1] := ⟨[.string x.f0], [.string x.f1], rfl, rfl, rfl⟩
def rd_T83 (xs : List S83) (i : Int) : S83 := xs.getD i.toNat z83
theorem at_T83 {w : World} {A : Option Addr} {n : Nat} {xs : List S83} (h : Kd.C k83 w A n xs) (i : Int) (h0 : 0 ≤ i) (h1 : i < n) : ∃ ad , A = some ad ∧ w.cell? (ad.add (i.toNat * 2)) = some (.string (rd_T83 xs i).f0) ∧ w.cell? ⟨(ad.add (i.toNat * 2)).block, (ad.add (i.toNat * 2)).off + 1, none⟩ = some (.string (rd_T83 xs i).f1) := by
  obtain ⟨ad, c, e, _, hK, hc0⟩ := Kd.C_get h z83 i h0 h1
  have hc : ∀ j u, c[j]? = some u → w.cell? (ad.add (i.toNat * 2 + j)) = some u := hc0
  obtain rfl := k83_open hK
  exact ⟨ad, e, hc 0 _ rfl, by rw [← add_field _ _ 1 (by omega)]; exact hc 1 _ rfl⟩

/-! #### struct type 169 -/
structure S169 where
  f0 : ByteArray
  f1 : ByteArray
  f2 : Bool
  f3 : Int
def z169 : S169 := ⟨(⟨#[]⟩ : ByteArray), (⟨#[]⟩ : ByteArray), false, (0 : Int)⟩
def k169 : Kd S169 := Kd.iso (Kd.pair Kd.string (Kd.pair Kd.string (Kd.pair Kd.bool (Kd.int .i64)))) (fun x : S169 => (x.f0, x.f1, x.f2, x.f3))
theorem k169_open {w : World} {x : S169} {cs : List Value} (h : k169.K w x cs) : cs = [.string x.f0, .string x.f1, .bool x.f2, .int .i64 x.f3] := by
  obtain ⟨_, _, rfl, rfl, ⟨_, _, rfl, rfl, ⟨_, _, rfl, rfl, rfl⟩⟩⟩ := h
  exact rfl
theorem k169_openM {w : World} {base : Nat} {ok : Nat → Prop} {x : S169} {cs : List Value} (h : k169.M w base ok x cs) : cs = [.string x.f0, .string x.f1, .bool x.f2, .int .i64 x.f3] := by
  obtain ⟨_, _, rfl, rfl, ⟨_, _, rfl, rfl, ⟨_, _, rfl, rfl, rfl⟩⟩⟩ := h
  exact rfl
theorem k169_mk (w : World) (x : S169)  : k169.K w x [.string x.f0, .string x.f1, .bool x.f2, .int .i64 x.f3] := ⟨[.string x.f0], [.string x.f1, .bool x.f2, .int .i64 x.f3], rfl, rfl, ⟨[.string x.f1], [.bool x.f2, .int .i64 x.f3], rfl, rfl, ⟨[.bool x.f2], [.int .i64 x.f3], rfl, rfl, rfl⟩⟩⟩
theorem k169_mkM (w : World) (base : Nat) (ok : Nat → Prop) (x : S169)  : k169.M w base ok x [.string x.f0, .string x.f1, .bool x.f2, .int .i64 x.f3] := ⟨[.string x.f0], [.string x.f1, .bool x.f2, .int .i64 x.f3], rfl, rfl, ⟨[.string x.f1], [.bool x.f2, .int .i64 x.f3], rfl, rfl, ⟨[.bool x.f2], [.int .i64 x.f3], rfl, rfl, rfl⟩⟩⟩
def rd_T169 (xs : List S169) (i : Int) : S169 := xs.getD i.toNat z169
theorem at_T169 {w : World} {A : Option Addr} {n : Nat} {xs : List S169} (h : Kd.C k169 w A n xs) (i : Int) (h0 : 0 ≤ i) (h1 : i < n) : ∃ ad , A = some ad ∧ w.cell? (ad.add (i.toNat * 4)) = some (.string (rd_T169 xs i).f0) ∧ w.cell? ⟨(ad.add (i.toNat * 4)).block, (ad.add (i.toNat * 4)).off + 1, none⟩ = some (.string (rd_T169 xs i).f1) ∧ w.cell? ⟨(ad.add (i.toNat * 4)).block, (ad.add (i.toNat * 4)).off + 2, none⟩ = some (.bool (rd_T169 xs i).f2) ∧ w.cell? ⟨(ad.add (i.toNat * 4)).block, (ad.add (i.toNat * 4)).off + 3, none⟩ = some (.int .i64 (rd_T169 xs i).f3) := by
  obtain ⟨ad, c, e, _, hK, hc0⟩ := Kd.C_get h z169 i h0 h1
  have hc : ∀ j u, c[j]? = some u → w.cell? (ad.add (i.toNat * 4 + j)) = some u := hc0
  obtain rfl := k169_open hK
  exact ⟨ad, e, hc 0 _ rfl, by rw [← add_field _ _ 1 (by omega)]; exact hc 1 _ rfl, by rw [← add_field _ _ 2 (by omega)]; exact hc 2 _ rfl, by rw [← add_field _ _ 3 (by omega)]; exact hc 3 _ rfl⟩

/-! #### struct type 157 -/
structure S157 where
  f0 : ByteArray
  f1 : ByteArray
  f2 : Int
def z157 : S157 := ⟨(⟨#[]⟩ : ByteArray), (⟨#[]⟩ : ByteArray), (0 : Int)⟩
def k157 : Kd S157 := Kd.iso (Kd.pair Kd.string (Kd.pair Kd.string (Kd.int .i64))) (fun x : S157 => (x.f0, x.f1, x.f2))
theorem k157_open {w : World} {x : S157} {cs : List Value} (h : k157.K w x cs) : cs = [.string x.f0, .string x.f1, .int .i64 x.f2] := by
  obtain ⟨_, _, rfl, rfl, ⟨_, _, rfl, rfl, rfl⟩⟩ := h
  exact rfl
theorem k157_openM {w : World} {base : Nat} {ok : Nat → Prop} {x : S157} {cs : List Value} (h : k157.M w base ok x cs) : cs = [.string x.f0, .string x.f1, .int .i64 x.f2] := by
  obtain ⟨_, _, rfl, rfl, ⟨_, _, rfl, rfl, rfl⟩⟩ := h
  exact rfl
theorem k157_mk (w : World) (x : S157)  : k157.K w x [.string x.f0, .string x.f1, .int .i64 x.f2] := ⟨[.string x.f0], [.string x.f1, .int .i64 x.f2], rfl, rfl, ⟨[.string x.f1], [.int .i64 x.f2], rfl, rfl, rfl⟩⟩
theorem k157_mkM (w : World) (base : Nat) (ok : Nat → Prop) (x : S157)  : k157.M w base ok x [.string x.f0, .string x.f1, .int .i64 x.f2] := ⟨[.string x.f0], [.string x.f1, .int .i64 x.f2], rfl, rfl, ⟨[.string x.f1], [.int .i64 x.f2], rfl, rfl, rfl⟩⟩
def rd_T157 (xs : List S157) (i : Int) : S157 := xs.getD i.toNat z157
theorem at_T157 {w : World} {A : Option Addr} {n : Nat} {xs : List S157} (h : Kd.C k157 w A n xs) (i : Int) (h0 : 0 ≤ i) (h1 : i < n) : ∃ ad , A = some ad ∧ w.cell? (ad.add (i.toNat * 3)) = some (.string (rd_T157 xs i).f0) ∧ w.cell? ⟨(ad.add (i.toNat * 3)).block, (ad.add (i.toNat * 3)).off + 1, none⟩ = some (.string (rd_T157 xs i).f1) ∧ w.cell? ⟨(ad.add (i.toNat * 3)).block, (ad.add (i.toNat * 3)).off + 2, none⟩ = some (.int .i64 (rd_T157 xs i).f2) := by
  obtain ⟨ad, c, e, _, hK, hc0⟩ := Kd.C_get h z157 i h0 h1
  have hc : ∀ j u, c[j]? = some u → w.cell? (ad.add (i.toNat * 3 + j)) = some u := hc0
  obtain rfl := k157_open hK
  exact ⟨ad, e, hc 0 _ rfl, by rw [← add_field _ _ 1 (by omega)]; exact hc 1 _ rfl, by rw [← add_field _ _ 2 (by omega)]; exact hc 2 _ rfl⟩

/-! #### struct type 70 -/
structure S70 where
  f0 : Int
  f1 : Int
  f2 : Int
  f3 : Int
  f4 : Int
def z70 : S70 := ⟨(0 : Int), (0 : Int), (0 : Int), (0 : Int), (0 : Int)⟩
def k70 : Kd S70 := Kd.iso (Kd.pair (Kd.int .i64) (Kd.pair (Kd.int .i64) (Kd.pair (Kd.int .i64) (Kd.pair (Kd.int .i64) (Kd.int .i64))))) (fun x : S70 => (x.f0, x.f1, x.f2, x.f3, x.f4))
theorem k70_open {w : World} {x : S70} {cs : List Value} (h : k70.K w x cs) : cs = [.int .i64 x.f0, .int .i64 x.f1, .int .i64 x.f2, .int .i64 x.f3, .int .i64 x.f4] := by
  obtain ⟨_, _, rfl, rfl, ⟨_, _, rfl, rfl, ⟨_, _, rfl, rfl, ⟨_, _, rfl, rfl, rfl⟩⟩⟩⟩ := h
  exact rfl
theorem k70_openM {w : World} {base : Nat} {ok : Nat → Prop} {x : S70} {cs : List Value} (h : k70.M w base ok x cs) : cs = [.int .i64 x.f0, .int .i64 x.f1, .int .i64 x.f2, .int .i64 x.f3, .int .i64 x.f4] := by
  obtain ⟨_, _, rfl, rfl, ⟨_, _, rfl, rfl, ⟨_, _, rfl, rfl, ⟨_, _, rfl, rfl, rfl⟩⟩⟩⟩ := h
  exact rfl
theorem k70_mk (w : World) (x : S70)  : k70.K w x [.int .i64 x.f0, .int .i64 x.f1, .int .i64 x.f2, .int .i64 x.f3, .int .i64 x.f4] := ⟨[.int .i64 x.f0], [.int .i64 x.f1, .int .i64 x.f2, .int .i64 x.f3, .int .i64 x.f4], rfl, rfl, ⟨[.int .i64 x.f1], [.int .i64 x.f2, .int .i64 x.f3, .int .i64 x.f4], rfl, rfl, ⟨[.int .i64 x.f2], [.int .i64 x.f3, .int .i64 x.f4], rfl, rfl, ⟨[.int .i64 x.f3], [.int .i64 x.f4], rfl, rfl, rfl⟩⟩⟩⟩
theorem k70_mkM (w : World) (base : Nat) (ok : Nat → Prop) (x : S70)  : k70.M w base ok x [.int .i64 x.f0, .int .i64 x.f1, .int .i64 x.f2, .int .i64 x.f3, .int .i64 x.f4] := ⟨[.int .i64 x.f0], [.int .i64 x.f1, .int .i64 x.f2, .int .i64 x.f3, .int .i64 x.f4], rfl, rfl, ⟨[.int .i64 x.f1], [.int .i64 x.f2, .int .i64 x.f3, .int .i64 x.f4], rfl, rfl, ⟨[.int .i64 x.f2], [.int .i64 x.f3, .int .i64 x.f4], rfl, rfl, ⟨[.int .i64 x.f3], [.int .i64 x.f4], rfl, rfl, rfl⟩⟩⟩⟩
def rd_T70 (xs : List S70) (i : Int) : S70 := xs.getD i.toNat z70
theorem at_T70 {w : World} {A : Option Addr} {n : Nat} {xs : List S70} (h : Kd.C k70 w A n xs) (i : Int) (h0 : 0 ≤ i) (h1 : i < n) : ∃ ad , A = some ad ∧ w.cell? (ad.add (i.toNat * 5)) = some (.int .i64 (rd_T70 xs i).f0) ∧ w.cell? ⟨(ad.add (i.toNat * 5)).block, (ad.add (i.toNat * 5)).off + 1, none⟩ = some (.int .i64 (rd_T70 xs i).f1) ∧ w.cell? ⟨(ad.add (i.toNat * 5)).block, (ad.add (i.toNat * 5)).off + 2, none⟩ = some (.int .i64 (rd_T70 xs i).f2) ∧ w.cell? ⟨(ad.add (i.toNat * 5)).block, (ad.add (i.toNat * 5)).off + 3, none⟩ = some (.int .i64 (rd_T70 xs i).f3) ∧ w.cell? ⟨(ad.add (i.toNat * 5)).block, (ad.add (i.toNat * 5)).off + 4, none⟩ = some (.int .i64 (rd_T70 xs i).f4) := by
  obtain ⟨ad, c, e, _, hK, hc0⟩ := Kd.C_get h z70 i h0 h1
  have hc : ∀ j u, c[j]? = some u → w.cell? (ad.add (i.toNat * 5 + j)) = some u := hc0
  obtain rfl := k70_open hK
  exact ⟨ad, e, hc 0 _ rfl, by rw [← add_field _ _ 1 (by omega)]; exact hc 1 _ rfl, by rw [← add_field _ _ 2 (by omega)]; exact hc 2 _ rfl, by rw [← add_field _ _ 3 (by omega)]; exact hc 3 _ rfl, by rw [← add_field _ _ 4 (by omega)]; exact hc 4 _ rfl⟩

def rd_L7 (xs : List (List S83)) (i : Int) : (List S83) := xs.getD i.toNat ([] : List S83)
theorem at_L7 {w : World} {A : Option Addr} {n : Nat} {xs : List (List S83)} (h : Kd.C (Kd.slice 83 k83) w A n xs) (i : Int) (h0 : 0 ≤ i) (h1 : i < n) : ∃ ad A0 c0, A = some ad ∧ w.cell? (ad.add i.toNat) = some (.slice A0 (rd_L7 xs i).length c0) ∧ (rd_L7 xs i).length ≤ c0 ∧ k83.C w A0 (rd_L7 xs i).length (rd_L7 xs i) := by
  obtain ⟨ad, c, e, _, hK, hc0⟩ := Kd.C_get h ([] : List S83) i h0 h1
  have hc : ∀ j u, c[j]? = some u → w.cell? (ad.add (i.toNat * 1 + j)) = some u := hc0
  obtain ⟨A0, c0, rfl, l0, g0⟩ := hK
  exact ⟨ad, A0, c0, e, by have hq := hc 0 _ rfl; rwa [Nat.mul_one, Nat.add_zero] at hq, l0, g0⟩

def rd_L8 (xs : List (List S157)) (i : Int) : (List S157) := xs.getD i.toNat ([] : List S157)
theorem at_L8 {w : World} {A : Option Addr} {n : Nat} {xs : List (List S157)} (h : Kd.C (Kd.slice 157 k157) w A n xs) (i : Int) (h0 : 0 ≤ i) (h1 : i < n) : ∃ ad A0 c0, A = some ad ∧ w.cell? (ad.add i.toNat) = some (.slice A0 (rd_L8 xs i).length c0) ∧ (rd_L8 xs i).length ≤ c0 ∧ k157.C w A0 (rd_L8 xs i).length (rd_L8 xs i) := by
  obtain ⟨ad, c, e, _, hK, hc0⟩ := Kd.C_get h ([] : List S157) i h0 h1
  have hc : ∀ j u, c[j]? = some u → w.cell? (ad.add (i.toNat * 1 + j)) = some u := hc0
  obtain ⟨A0, c0, rfl, l0, g0⟩ := hK
  exact ⟨ad, A0, c0, e, by have hq := hc 0 _ rfl; rwa [Nat.mul_one, Nat.add_zero] at hq, l0, g0⟩

/-! #### struct type 74 -/
structure S74 where
  f0 : ByteArray
  f1 : ByteArray
  f2 : S70
  f3 : (List S83)
  f4 : (List S157)
  f5 : Bool
def z74 : S74 := ⟨(⟨#[]⟩ : ByteArray), (⟨#[]⟩ : ByteArray), z70, ([] : List S83), ([] : List S157), false⟩
def k74 : Kd S74 := Kd.iso (Kd.pair Kd.string (Kd.pair Kd.string (Kd.pair k70 (Kd.pair (Kd.slice 83 k83) (Kd.pair (Kd.slice 157 k157) Kd.bool))))) (fun x : S74 => (x.f0, x.f1, x.f2, x.f3, x.f4, x.f5))
theorem k74_open {w : World} {x : S74} {cs : List Value} (h : k74.K w x cs) : ∃ A7 c7 A8 c8, cs = [.string x.f0, .string x.f1, .int .i64 x.f2.f0, .int .i64 x.f2.f1, .int .i64 x.f2.f2, .int .i64 x.f2.f3, .int .i64 x.f2.f4, .slice A7 x.f3.length c7, .slice A8 x.f4.length c8, .bool x.f5] ∧ x.f3.length ≤ c7 ∧ k83.C w A7 x.f3.length x.f3 ∧ x.f4.length ≤ c8 ∧ k157.C w A8 x.f4.length x.f4 := by
  obtain ⟨_, _, rfl, rfl, ⟨_, _, rfl, rfl, ⟨_, _, rfl, s2, ⟨_, _, rfl, ⟨A7, c7, rfl, l7, g7⟩, ⟨_, _, rfl, ⟨A8, c8, rfl, l8, g8⟩, rfl⟩⟩⟩⟩⟩ := h
  obtain rfl := k70_open s2
  exact ⟨A7, c7, A8, c8, rfl, l7, g7, l8, g8⟩
theorem k74_openM {w : World} {base : Nat} {ok : Nat → Prop} {x : S74} {cs : List Value} (h : k74.M w base ok x cs) : ∃ v7 v8, cs = [.string x.f0, .string x.f1, .int .i64 x.f2.f0, .int .i64 x.f2.f1, .int .i64 x.f2.f2, .int .i64 x.f2.f3, .int .i64 x.f2.f4, v7, v8, .bool x.f5] ∧ k83.R 83 w base ok v7 x.f3 ∧ k157.R 157 w base ok v8 x.f4 := by
  obtain ⟨_, _, rfl, rfl, ⟨_, _, rfl, rfl, ⟨_, _, rfl, s2, ⟨_, _, rfl, ⟨v7, rfl, g7⟩, ⟨_, _, rfl, ⟨v8, rfl, g8⟩, rfl⟩⟩⟩⟩⟩ := h
  obtain rfl := k70_openM s2
  exact ⟨v7, v8, rfl, g7, g8⟩
theorem k74_mk (w : World) (x : S74) {A7 : Option Addr} {c7 : Nat} (l7 : x.f3.length ≤ c7) (g7 : k83.C w A7 x.f3.length x.f3) {A8 : Option Addr} {c8 : Nat} (l8 : x.f4.length ≤ c8) (g8 : k157.C w A8 x.f4.length x.f4) : k74.K w x [.string x.f0, .string x.f1, .int .i64 x.f2.f0, .int .i64 x.f2.f1, .int .i64 x.f2.f2, .int .i64 x.f2.f3, .int .i64 x.f2.f4, .slice A7 x.f3.length c7, .slice A8 x.f4.length c8, .bool x.f5] := ⟨[.string x.f0], [.string x.f1, .int .i64 x.f2.f0, .int .i64 x.f2.f1, .int .i64 x.f2.f2, .int .i64 x.f2.f3, .int .i64 x.f2.f4, .slice A7 x.f3.length c7, .slice A8 x.f4.length c8, .bool x.f5], rfl, rfl, ⟨[.string x.f1], [.int .i64 x.f2.f0, .int .i64 x.f2.f1, .int .i64 x.f2.f2, .int .i64 x.f2.f3, .int .i64 x.f2.f4, .slice A7 x.f3.length c7, .slice A8 x.f4.length c8, .bool x.f5], rfl, rfl, ⟨[.int .i64 x.f2.f0, .int .i64 x.f2.f1, .int .i64 x.f2.f2, .int .i64 x.f2.f3, .int .i64 x.f2.f4], [.slice A7 x.f3.length c7, .slice A8 x.f4.length c8, .bool x.f5], rfl, (k70_mk w x.f2 ), ⟨[.slice A7 x.f3.length c7], [.slice A8 x.f4.length c8, .bool x.f5], rfl, ⟨A7, c7, rfl, l7, g7⟩, ⟨[.slice A8 x.f4.length c8], [.bool x.f5], rfl, ⟨A8, c8, rfl, l8, g8⟩, rfl⟩⟩⟩⟩⟩
theorem k74_mkM (w : World) (base : Nat) (ok : Nat → Prop) (x : S74) {v7 : Value} (g7 : k83.R 83 w base ok v7 x.f3) {v8 : Value} (g8 : k157.R 157 w base ok v8 x.f4) : k74.M w base ok x [.string x.f0, .string x.f1, .int .i64 x.f2.f0, .int .i64 x.f2.f1, .int .i64 x.f2.f2, .int .i64 x.f2.f3, .int .i64 x.f2.f4, v7, v8, .bool x.f5] := ⟨[.string x.f0], [.string x.f1, .int .i64 x.f2.f0, .int .i64 x.f2.f1, .int .i64 x.f2.f2, .int .i64 x.f2.f3, .int .i64 x.f2.f4, v7, v8, .bool x.f5], rfl, rfl, ⟨[.string x.f1], [.int .i64 x.f2.f0, .int .i64 x.f2.f1, .int .i64 x.f2.f2, .int .i64 x.f2.f3, .int .i64 x.f2.f4, v7, v8, .bool x.f5], rfl, rfl, ⟨[.int .i64 x.f2.f0, .int .i64 x.f2.f1, .int .i64 x.f2.f2, .int .i64 x.f2.f3, .int .i64 x.f2.f4], [v7, v8, .bool x.f5], rfl, (k70_mkM w base ok x.f2 ), ⟨[v7], [v8, .bool x.f5], rfl, ⟨v7, rfl, g7⟩, ⟨[v8], [.bool x.f5], rfl, ⟨v8, rfl, g8⟩, rfl⟩⟩⟩⟩⟩
def rd_T74 (xs : List S74) (i : Int) : S74 := xs.getD i.toNat z74
theorem at_T74 {w : World} {A : Option Addr} {n : Nat} {xs : List S74} (h : Kd.C k74 w A n xs) (i : Int) (h0 : 0 ≤ i) (h1 : i < n) : ∃ ad A7 c7 A8 c8, A = some ad ∧ w.cell? (ad.add (i.toNat * 10)) = some (.string (rd_T74 xs i).f0) ∧ w.cell? ⟨(ad.add (i.toNat * 10)).block, (ad.add (i.toNat * 10)).off + 1, none⟩ = some (.string (rd_T74 xs i).f1) ∧ w.cell? ⟨(ad.add (i.toNat * 10)).block, (ad.add (i.toNat * 10)).off + 2, none⟩ = some (.int .i64 (rd_T74 xs i).f2.f0) ∧ w.cell? ⟨(ad.add (i.toNat * 10)).block, (ad.add (i.toNat * 10)).off + 3, none⟩ = some (.int .i64 (rd_T74 xs i).f2.f1) ∧ w.cell? ⟨(ad.add (i.toNat * 10)).block, (ad.add (i.toNat * 10)).off + 4, none⟩ = some (.int .i64 (rd_T74 xs i).f2.f2) ∧ w.cell? ⟨(ad.add (i.toNat * 10)).block, (ad.add (i.toNat * 10)).off + 5, none⟩ = some (.int .i64 (rd_T74 xs i).f2.f3) ∧ w.cell? ⟨(ad.add (i.toNat * 10)).block, (ad.add (i.toNat * 10)).off + 6, none⟩ = some (.int .i64 (rd_T74 xs i).f2.f4) ∧ w.cell? ⟨(ad.add (i.toNat * 10)).block, (ad.add (i.toNat * 10)).off + 7, none⟩ = some (.slice A7 (rd_T74 xs i).f3.length c7) ∧ w.cell? ⟨(ad.add (i.toNat * 10)).block, (ad.add (i.toNat * 10)).off + 8, none⟩ = some (.slice A8 (rd_T74 xs i).f4.length c8) ∧ w.cell? ⟨(ad.add (i.toNat * 10)).block, (ad.add (i.toNat * 10)).off + 9, none⟩ = some (.bool (rd_T74 xs i).f5) ∧ (rd_T74 xs i).f3.length ≤ c7 ∧ k83.C w A7 (rd_T74 xs i).f3.length (rd_T74 xs i).f3 ∧ (rd_T74 xs i).f4.length ≤ c8 ∧ k157.C w A8 (rd_T74 xs i).f4.length (rd_T74 xs i).f4 := by
  obtain ⟨ad, c, e, _, hK, hc0⟩ := Kd.C_get h z74 i h0 h1
  have hc : ∀ j u, c[j]? = some u → w.cell? (ad.add (i.toNat * 10 + j)) = some u := hc0
  obtain ⟨A7, c7, A8, c8, rfl, l7, g7, l8, g8⟩ := k74_open hK
  exact ⟨ad, A7, c7, A8, c8, e, hc 0 _ rfl, by rw [← add_field _ _ 1 (by omega)]; exact hc 1 _ rfl, by rw [← add_field _ _ 2 (by omega)]; exact hc 2 _ rfl, by rw [← add_field _ _ 3 (by omega)]; exact hc 3 _ rfl, by rw [← add_field _ _ 4 (by omega)]; exact hc 4 _ rfl, by rw [← add_field _ _ 5 (by omega)]; exact hc 5 _ rfl, by rw [← add_field _ _ 6 (by omega)]; exact hc 6 _ rfl, by rw [← add_field _ _ 7 (by omega)]; exact hc 7 _ rfl, by rw [← add_field _ _ 8 (by omega)]; exact hc 8 _ rfl, by rw [← add_field _ _ 9 (by omega)]; exact hc 9 _ rfl, l7, g7, l8, g8⟩

/-! #### struct type 76 -/
structure S76 where
  f0 : ByteArray
  f1 : Int
  f2 : Int
  f3 : S74
  f4 : Int
  f5 : Int
def z76 : S76 := ⟨(⟨#[]⟩ : ByteArray), (0 : Int), (0 : Int), z74, (0 : Int), (0 : Int)⟩
def k76 : Kd S76 := Kd.iso (Kd.pair Kd.string (Kd.pair (Kd.int .i64) (Kd.pair (Kd.int .i64) (Kd.pair k74 (Kd.pair (Kd.int .i64) (Kd.int .i64)))))) (fun x : S76 => (x.f0, x.f1, x.f2, x.f3, x.f4, x.f5))
theorem k76_open {w : World} {x : S76} {cs : List Value} (h : k76.K w x cs) : ∃ A10 c10 A11 c11, cs = [.string x.f0, .int .i64 x.f1, .int .i64 x.f2, .string x.f3.f0, .string x.f3.f1, .int .i64 x.f3.f2.f0, .int .i64 x.f3.f2.f1, .int .i64 x.f3.f2.f2, .int .i64 x.f3.f2.f3, .int .i64 x.f3.f2.f4, .slice A10 x.f3.f3.length c10, .slice A11 x.f3.f4.length c11, .bool x.f3.f5, .int .i64 x.f4, .int .i64 x.f5] ∧ x.f3.f3.length ≤ c10 ∧ k83.C w A10 x.f3.f3.length x.f3.f3 ∧ x.f3.f4.length ≤ c11 ∧ k157.C w A11 x.f3.f4.length x.f3.f4 := by
  obtain ⟨_, _, rfl, rfl, ⟨_, _, rfl, rfl, ⟨_, _, rfl, rfl, ⟨_, _, rfl, s3, ⟨_, _, rfl, rfl, rfl⟩⟩⟩⟩⟩ := h
  obtain ⟨A10, c10, A11, c11, rfl, l10, g10, l11, g11⟩ := k74_open s3
  exact ⟨A10, c10, A11, c11, rfl, l10, g10, l11, g11⟩
theorem k76_openM {w : World} {base : Nat} {ok : Nat → Prop} {x : S76} {cs : List Value} (h : k76.M w base ok x cs) : ∃ v10 v11, cs = [.string x.f0, .int .i64 x.f1, .int .i64 x.f2, .string x.f3.f0, .string x.f3.f1, .int .i64 x.f3.f2.f0, .int .i64 x.f3.f2.f1, .int .i64 x.f3.f2.f2, .int .i64 x.f3.f2.f3, .int .i64 x.f3.f2.f4, v10, v11, .bool x.f3.f5, .int .i64 x.f4, .int .i64 x.f5] ∧ k83.R 83 w base ok v10 x.f3.f3 ∧ k157.R 157 w base ok v11 x.f3.f4 := by
  obtain ⟨_, _, rfl, rfl, ⟨_, _, rfl, rfl, ⟨_, _, rfl, rfl, ⟨_, _, rfl, s3, ⟨_, _, rfl, rfl, rfl⟩⟩⟩⟩⟩ := h
  obtain ⟨v10, v11, rfl, g10, g11⟩ := k74_openM s3
  exact ⟨v10, v11, rfl, g10, g11⟩
theorem k76_mk (w : World) (x : S76) {A10 : Option Addr} {c10 : Nat} (l10 : x.f3.f3.length ≤ c10) (g10 : k83.C w A10 x.f3.f3.length x.f3.f3) {A11 : Option Addr} {c11 : Nat} (l11 : x.f3.f4.length ≤ c11) (g11 : k157.C w A11 x.f3.f4.length x.f3.f4) : k76.K w x [.string x.f0, .int .i64 x.f1, .int .i64 x.f2, .string x.f3.f0, .string x.f3.f1, .int .i64 x.f3.f2.f0, .int .i64 x.f3.f2.f1, .int .i64 x.f3.f2.f2, .int .i64 x.f3.f2.f3, .int .i64 x.f3.f2.f4, .slice A10 x.f3.f3.length c10, .slice A11 x.f3.f4.length c11, .bool x.f3.f5, .int .i64 x.f4, .int .i64 x.f5] := ⟨[.string x.f0], [.int .i64 x.f1, .int .i64 x.f2, .string x.f3.f0, .string x.f3.f1, .int .i64 x.f3.f2.f0, .int .i64 x.f3.f2.f1, .int .i64 x.f3.f2.f2, .int .i64 x.f3.f2.f3, .int .i64 x.f3.f2.f4, .slice A10 x.f3.f3.length c10, .slice A11 x.f3.f4.length c11, .bool x.f3.f5, .int .i64 x.f4, .int .i64 x.f5], rfl, rfl, ⟨[.int .i64 x.f1], [.int .i64 x.f2, .string x.f3.f0, .string x.f3.f1, .int .i64 x.f3.f2.f0, .int .i64 x.f3.f2.f1, .int .i64 x.f3.f2.f2, .int .i64 x.f3.f2.f3, .int .i64 x.f3.f2.f4, .slice A10 x.f3.f3.length c10, .slice A11 x.f3.f4.length c11, .bool x.f3.f5, .int .i64 x.f4, .int .i64 x.f5], rfl, rfl, ⟨[.int .i64 x.f2], [.string x.f3.f0, .string x.f3.f1, .int .i64 x.f3.f2.f0, .int .i64 x.f3.f2.f1, .int .i64 x.f3.f2.f2, .int .i64 x.f3.f2.f3, .int .i64 x.f3.f2.f4, .slice A10 x.f3.f3.length c10, .slice A11 x.f3.f4.length c11, .bool x.f3.f5, .int .i64 x.f4, .int .i64 x.f5], rfl, rfl, ⟨[.string x.f3.f0, .string x.f3.f1, .int .i64 x.f3.f2.f0, .int .i64 x.f3.f2.f1, .int .i64 x.f3.f2.f2, .int .i64 x.f3.f2.f3, .int .i64 x.f3.f2.f4, .slice A10 x.f3.f3.length c10, .slice A11 x.f3.f4.length c11, .bool x.f3.f5], [.int .i64 x.f4, .int .i64 x.f5], rfl, (k74_mk w x.f3 l10 g10 l11 g11), ⟨[.int .i64 x.f4], [.int .i64 x.f5], rfl, rfl, rfl⟩⟩⟩⟩⟩
theorem k76_mkM (w : World) (base : Nat) (ok : Nat → Prop) (x : S76) {v10 : Value} (g10 : k83.R 83 w base ok v10 x.f3.f3) {v11 : Value} (g11 : k157.R 157 w base ok v11 x.f3.f4) : k76.M w base ok x [.string x.f0, .int .i64 x.f1, .int .i64 x.f2, .string x.f3.f0, .string x.f3.f1, .int .i64 x.f3.f2.f0, .int .i64 x.f3.f2.f1, .int .i64 x.f3.f2.f2, .int .i64 x.f3.f2.f3, .int .i64 x.f3.f2.f4, v10, v11, .bool x.f3.f5, .int .i64 x.f4, .int .i64 x.f5] := ⟨[.string x.f0], [.int .i64 x.f1, .int .i64 x.f2, .string x.f3.f0, .string x.f3.f1, .int .i64 x.f3.f2.f0, .int .i64 x.f3.f2.f1, .int .i64 x.f3.f2.f2, .int .i64 x.f3.f2.f3, .int .i64 x.f3.f2.f4, v10, v11, .bool x.f3.f5, .int .i64 x.f4, .int .i64 x.f5], rfl, rfl, ⟨[.int .i64 x.f1], [.int .i64 x.f2, .string x.f3.f0, .string x.f3.f1, .int .i64 x.f3.f2.f0, .int .i64 x.f3.f2.f1, .int .i64 x.f3.f2.f2, .int .i64 x.f3.f2.f3, .int .i64 x.f3.f2.f4, v10, v11, .bool x.f3.f5, .int .i64 x.f4, .int .i64 x.f5], rfl, rfl, ⟨[.int .i64 x.f2], [.string x.f3.f0, .string x.f3.f1, .int .i64 x.f3.f2.f0, .int .i64 x.f3.f2.f1, .int .i64 x.f3.f2.f2, .int .i64 x.f3.f2.f3, .int .i64 x.f3.f2.f4, v10, v11, .bool x.f3.f5, .int .i64 x.f4, .int .i64 x.f5], rfl, rfl, ⟨[.string x.f3.f0, .string x.f3.f1, .int .i64 x.f3.f2.f0, .int .i64 x.f3.f2.f1, .int .i64 x.f3.f2.f2, .int .i64 x.f3.f2.f3, .int .i64 x.f3.f2.f4, v10, v11, .bool x.f3.f5], [.int .i64 x.f4, .int .i64 x.f5], rfl, (k74_mkM w base ok x.f3 g10 g11), ⟨[.int .i64 x.f4], [.int .i64 x.f5], rfl, rfl, rfl⟩⟩⟩⟩⟩
def rd_T76 (xs : List S76) (i : Int) : S76 := xs.getD i.toNat z76
theorem at_T76 {w : World} {A : Option Addr} {n : Nat} {xs : List S76} (h : Kd.C k76 w A n xs) (i : Int) (h0 : 0 ≤ i) (h1 : i < n) : ∃ ad A10 c10 A11 c11, A = some ad ∧ w.cell? (ad.add (i.toNat * 15)) = some (.string (rd_T76 xs i).f0) ∧ w.cell? ⟨(ad.add (i.toNat * 15)).block, (ad.add (i.toNat * 15)).off + 1, none⟩ = some (.int .i64 (rd_T76 xs i).f1) ∧ w.cell? ⟨(ad.add (i.toNat * 15)).block, (ad.add (i.toNat * 15)).off + 2, none⟩ = some (.int .i64 (rd_T76 xs i).f2) ∧ w.cell? ⟨(ad.add (i.toNat * 15)).block, (ad.add (i.toNat * 15)).off + 3, none⟩ = some (.string (rd_T76 xs i).f3.f0) ∧ w.cell? ⟨(ad.add (i.toNat * 15)).block, (ad.add (i.toNat * 15)).off + 4, none⟩ = some (.string (rd_T76 xs i).f3.f1) ∧ w.cell? ⟨(ad.add (i.toNat * 15)).block, (ad.add (i.toNat * 15)).off + 5, none⟩ = some (.int .i64 (rd_T76 xs i).f3.f2.f0) ∧ w.cell? ⟨(ad.add (i.toNat * 15)).block, (ad.add (i.toNat * 15)).off + 6, none⟩ = some (.int .i64 (rd_T76 xs i).f3.f2.f1) ∧ w.cell? ⟨(ad.add (i.toNat * 15)).block, (ad.add (i.toNat * 15)).off + 7, none⟩ = some (.int .i64 (rd_T76 xs i).f3.f2.f2) ∧ w.cell? ⟨(ad.add (i.toNat * 15)).block, (ad.add (i.toNat * 15)).off + 8, none⟩ = some (.int .i64 (rd_T76 xs i).f3.f2.f3) ∧ w.cell? ⟨(ad.add (i.toNat * 15)).block, (ad.add (i.toNat * 15)).off + 9, none⟩ = some (.int .i64 (rd_T76 xs i).f3.f2.f4) ∧ w.cell? ⟨(ad.add (i.toNat * 15)).block, (ad.add (i.toNat * 15)).off + 10, none⟩ = some (.slice A10 (rd_T76 xs i).f3.f3.length c10) ∧ w.cell? ⟨(ad.add (i.toNat * 15)).block, (ad.add (i.toNat * 15)).off + 11, none⟩ = some (.slice A11 (rd_T76 xs i).f3.f4.length c11) ∧ w.cell? ⟨(ad.add (i.toNat * 15)).block, (ad.add (i.toNat * 15)).off + 12, none⟩ = some (.bool (rd_T76 xs i).f3.f5) ∧ w.cell? ⟨(ad.add (i.toNat * 15)).block, (ad.add (i.toNat * 15)).off + 13, none⟩ = some (.int .i64 (rd_T76 xs i).f4) ∧ w.cell? ⟨(ad.add (i.toNat * 15)).block, (ad.add (i.toNat * 15)).off + 14, none⟩ = some (.int .i64 (rd_T76 xs i).f5) ∧ (rd_T76 xs i).f3.f3.length ≤ c10 ∧ k83.C w A10 (rd_T76 xs i).f3.f3.length (rd_T76 xs i).f3.f3 ∧ (rd_T76 xs i).f3.f4.length ≤ c11 ∧ k157.C w A11 (rd_T76 xs i).f3.f4.length (rd_T76 xs i).f3.f4 := by
  obtain ⟨ad, c, e, _, hK, hc0⟩ := Kd.C_get h z76 i h0 h1
  have hc : ∀ j u, c[j]? = some u → w.cell? (ad.add (i.toNat * 15 + j)) = some u := hc0
  obtain ⟨A10, c10, A11, c11, rfl, l10, g10, l11, g11⟩ := k76_open hK
  exact ⟨ad, A10, c10, A11, c11, e, hc 0 _ rfl, by rw [← add_field _ _ 1 (by omega)]; exact hc 1 _ rfl, by rw [← add_field _ _ 2 (by omega)]; exact hc 2 _ rfl, by rw [← add_field _ _ 3 (by omega)]; exact hc 3 _ rfl, by rw [← add_field _ _ 4 (by omega)]; exact hc 4 _ rfl, by rw [← add_field _ _ 5 (by omega)]; exact hc 5 _ rfl, by rw [← add_field _ _ 6 (by omega)]; exact hc 6 _ rfl, by rw [← add_field _ _ 7 (by omega)]; exact hc 7 _ rfl, by rw [← add_field _ _ 8 (by omega)]; exact hc 8 _ rfl, by rw [← add_field _ _ 9 (by omega)]; exact hc 9 _ rfl, by rw [← add_field _ _ 10 (by omega)]; exact hc 10 _ rfl, by rw [← add_field _ _ 11 (by omega)]; exact hc 11 _ rfl, by rw [← add_field _ _ 12 (by omega)]; exact hc 12 _ rfl, by rw [← add_field _ _ 13 (by omega)]; exact hc 13 _ rfl, by rw [← add_field _ _ 14 (by omega)]; exact hc 14 _ rfl, l10, g10, l11, g11⟩

/-! #### struct type 135 -/
structure S135 where
  f0 : ByteArray
  f1 : ByteArray
  f2 : Int
  f3 : Int
  f4 : Int
def z135 : S135 := ⟨(⟨#[]⟩ : ByteArray), (⟨#[]⟩ : ByteArray), (0 : Int), (0 : Int), (0 : Int)⟩
def k135 : Kd S135 := Kd.iso (Kd.pair Kd.string (Kd.pair Kd.string (Kd.pair (Kd.int .i64) (Kd.pair (Kd.int .i64) (Kd.int .i64))))) (fun x : S135 => (x.f0, x.f1, x.f2, x.f3, x.f4))
theorem k135_open {w : World} {x : S135} {cs : List Value} (h : k135.K w x cs) : cs = [.string x.f0, .string x.f1, .int .i64 x.f2, .int .i64 x.f3, .int .i64 x.f4] := by
  obtain ⟨_, _, rfl, rfl, ⟨_, _, rfl, rfl, ⟨_, _, rfl, rfl, ⟨_, _, rfl, rfl, rfl⟩⟩⟩⟩ := h
  exact rfl
theorem k135_openM {w : World} {base : Nat} {ok : Nat → Prop} {x : S135} {cs : List Value} (h : k135.M w base ok x cs) : cs = [.string x.f0, .string x.f1, .int .i64 x.f2, .int .i64 x.f3, .int .i64 x.f4] := by
  obtain ⟨_, _, rfl, rfl, ⟨_, _, rfl, rfl, ⟨_, _, rfl, rfl, ⟨_, _, rfl, rfl, rfl⟩⟩⟩⟩ := h
  exact rfl
theorem k135_mk (w : World) (x : S135)  : k135.K w x [.string x.f0, .string x.f1, .int .i64 x.f2, .int .i64 x.f3, .int .i64 x.f4] := ⟨[.string x.f0], [.string x.f1, .int .i64 x.f2, .int .i64 x.f3, .int .i64 x.f4], rfl, rfl, ⟨[.string x.f1], [.int .i64 x.f2, .int .i64 x.f3, .int .i64 x.f4], rfl, rfl, ⟨[.int .i64 x.f2], [.int .i64 x.f3, .int .i64 x.f4], rfl, rfl, ⟨[.int .i64 x.f3], [.int .i64 x.f4], rfl, rfl, rfl⟩⟩⟩⟩
theorem k135_mkM (w : World) (base : Nat) (ok : Nat → Prop) (x : S135)  : k135.M w base ok x [.string x.f0, .string x.f1, .int .i64 x.f2, .int .i64 x.f3, .int .i64 x.f4] := ⟨[.string x.f0], [.string x.f1, .int .i64 x.f2, .int .i64 x.f3, .int .i64 x.f4], rfl, rfl, ⟨[.string x.f1], [.int .i64 x.f2, .int .i64 x.f3, .int .i64 x.f4], rfl, rfl, ⟨[.int .i64 x.f2], [.int .i64 x.f3, .int .i64 x.f4], rfl, rfl, ⟨[.int .i64 x.f3], [.int .i64 x.f4], rfl, rfl, rfl⟩⟩⟩⟩
def rd_T135 (xs : List S135) (i : Int) : S135 := xs.getD i.toNat z135
theorem at_T135 {w : World} {A : Option Addr} {n : Nat} {xs : List S135} (h : Kd.C k135 w A n xs) (i : Int) (h0 : 0 ≤ i) (h1 : i < n) : ∃ ad , A = some ad ∧ w.cell? (ad.add (i.toNat * 5)) = some (.string (rd_T135 xs i).f0) ∧ w.cell? ⟨(ad.add (i.toNat * 5)).block, (ad.add (i.toNat * 5)).off + 1, none⟩ = some (.string (rd_T135 xs i).f1) ∧ w.cell? ⟨(ad.add (i.toNat * 5)).block, (ad.add (i.toNat * 5)).off + 2, none⟩ = some (.int .i64 (rd_T135 xs i).f2) ∧ w.cell? ⟨(ad.add (i.toNat * 5)).block, (ad.add (i.toNat * 5)).off + 3, none⟩ = some (.int .i64 (rd_T135 xs i).f3) ∧ w.cell? ⟨(ad.add (i.toNat * 5)).block, (ad.add (i.toNat * 5)).off + 4, none⟩ = some (.int .i64 (rd_T135 xs i).f4) := by
  obtain ⟨ad, c, e, _, hK, hc0⟩ := Kd.C_get h z135 i h0 h1
  have hc : ∀ j u, c[j]? = some u → w.cell? (ad.add (i.toNat * 5 + j)) = some u := hc0
  obtain rfl := k135_open hK
  exact ⟨ad, e, hc 0 _ rfl, by rw [← add_field _ _ 1 (by omega)]; exact hc 1 _ rfl, by rw [← add_field _ _ 2 (by omega)]; exact hc 2 _ rfl, by rw [← add_field _ _ 3 (by omega)]; exact hc 3 _ rfl, by rw [← add_field _ _ 4 (by omega)]; exact hc 4 _ rfl⟩

def rd_L12 (xs : List (List S135)) (i : Int) : (List S135) := xs.getD i.toNat ([] : List S135)
theorem at_L12 {w : World} {A : Option Addr} {n : Nat} {xs : List (List S135)} (h : Kd.C (Kd.slice 135 k135) w A n xs) (i : Int) (h0 : 0 ≤ i) (h1 : i < n) : ∃ ad A0 c0, A = some ad ∧ w.cell? (ad.add i.toNat) = some (.slice A0 (rd_L12 xs i).length c0) ∧ (rd_L12 xs i).length ≤ c0 ∧ k135.C w A0 (rd_L12 xs i).length (rd_L12 xs i) := by
  obtain ⟨ad, c, e, _, hK, hc0⟩ := Kd.C_get h ([] : List S135) i h0 h1
  have hc : ∀ j u, c[j]? = some u → w.cell? (ad.add (i.toNat * 1 + j)) = some u := hc0
  obtain ⟨A0, c0, rfl, l0, g0⟩ := hK
  exact ⟨ad, A0, c0, e, by have hq := hc 0 _ rfl; rwa [Nat.mul_one, Nat.add_zero] at hq, l0, g0⟩

/-- a look ahead: the operation is a call of this function. -/
theorem gate_callee {P : Program} {ops : Array Oper} {rest : List Oper} {o : Oper} {a : Act} {Q : Exit → Act → World → Prop} {W : World} {f : FuncId} {xs : Array Operand} {ts : Array TypeId} (_ho : o.op = .call { callee := .value (.func f), args := xs, argTypes := ts }) (h : wpList P ops Q (o :: rest) a W) : wpList P ops Q (o :: rest) a W := h
end Go.Proofs.Ytdpchfifaidamaa.PLedgerTells
