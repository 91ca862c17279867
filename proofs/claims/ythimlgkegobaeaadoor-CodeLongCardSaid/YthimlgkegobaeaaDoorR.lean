/-
  Contracts of reference functions, as the kit's print wrote them for this claim.
-/
import Derived.Test.YthimlgkegobaeaaDoorProg
import Derived.Below
import Derived.Deep.Draws
import Derived.Deep.AppendLies
import Derived.Maps.AppendAt
import Derived.OwnWalk
import Derived.Laws.BytesArg
import Derived.Laws.MakeOwn
import Derived.Laws.OwnMore
import Derived.Deep.OwnRows
import Derived.Tactics
import Derived.Lib.ConvBytes
import Derived.Laws.Slices
import Derived.WalkKit
import Derived.KernelRfl
import Derived.RowKit3
import Derived.Deep.LoopGhost
import Derived.Deep.QuietTactic
import Derived.BigQuiet
import Derived.WideLaws
import Derived.Deep.DeepCutAuto
import Derived.Deep.CutBlock
import Derived.Deep.RegionHeld3
import Derived.Laws.Rows
import Derived.Lib.AppendStr
import Derived.ArgAppend
import Derived.Laws.IdiomCopy
import Derived.OrdersHeld
import Derived.Laws.BitsLemmas
import Derived.RowKit
import Derived.Test.YthimlgkegobaeaaDoorWWords
import Derived.Test.YthimlgkegobaeaaDoorWLast
import Derived.Test.YthimlgkegobaeaaDoorWTab
import Derived.Test.YthimlgkegobaeaaDoorWFour
import Derived.Test.YthimlgkegobaeaaDoorWQPut
import Derived.Test.YthimlgkegobaeaaDoorWApart
import Derived.Test.YthimlgkegobaeaaDoorWArr
import Derived.Test.YthimlgkegobaeaaDoorWZeros
import Derived.Test.YthimlgkegobaeaaDoorWFoot
import Derived.Test.YthimlgkegobaeaaDoorWKept
import Derived.Test.YthimlgkegobaeaaDoorWShare
import Derived.Test.YthimlgkegobaeaaDoorWN
import Derived.Test.YthimlgkegobaeaaDoorWFootNe
import Derived.Test.YthimlgkegobaeaaDoorWAt
import Derived.Test.YthimlgkegobaeaaDoorWEqStruct
import Derived.Test.YthimlgkegobaeaaDoorWRepsOne
import Derived.Test.YthimlgkegobaeaaDoorWInv
import Derived.Test.YthimlgkegobaeaaDoorWInvWords
import Derived.Test.YthimlgkegobaeaaDoorWGuard
import Derived.Test.YthimlgkegobaeaaDoorWNEv
import Derived.Test.YthimlgkegobaeaaDoorWMore
namespace Go.Proofs.YthimlgkegobaeaaDoor
open Go.RowKit Go.Proofs.YthimlgkegobaeaaDoorW.PrintWords Go.Proofs.YthimlgkegobaeaaDoorW.PrintLast Go.Proofs.YthimlgkegobaeaaDoorW.PrintMore
attribute [local go_sem] max2_int min2_int max_two min_two max_three min_three max_four min_four   -- for this text's walks alone
set_option linter.unusedVariables false
set_option linter.unusedSimpArgs false

def errW : Option Int → Value
  | none => .nilIface
  | some c => .iface 0 (.int .i64 c)
theorem errW_none : errW none = .nilIface := rfl
theorem errW_some (c : Int) : errW (some c) = .iface 0 (.int .i64 c) := rfl

theorem info9 : (Tryd.prog.info? 9).map (fun i => (i.zero, i.size, i.bytes)) = some (some (.string ⟨#[]⟩), 1, 16) := by kernel_rfl
theorem info25 : (Tryd.prog.info? 25).map (fun i => (i.zero, i.size, i.bytes)) = some (some (.agg #[(.int .u8 0), (.int .u8 0), (.int .u8 0), (.int .u8 0), (.int .i32 0), (.int .u32 0)]), 6, 12) := by kernel_rfl
theorem info29 : (Tryd.prog.info? 29).map (fun i => (i.zero, i.size, i.bytes)) = some (some (.agg #[(.int .u8 0), (.int .u8 0), (.int .u8 0), (.int .u8 0), (.int .i32 0), (.int .u32 0)]), 6, 12) := by kernel_rfl
-- the values' own types
/-! #### struct type 164 -/
structure S164 where
  f0 : Int
  f1 : Int
  f2 : Int
def z164 : S164 := ⟨(0 : Int), (0 : Int), (0 : Int)⟩
def k164 : Kd S164 := Kd.iso (Kd.pair (Kd.int .u16) (Kd.pair (Kd.int .u16) (Kd.int .u16))) (fun x : S164 => (x.f0, x.f1, x.f2))
theorem k164_open {w : World} {x : S164} {cs : List Value} (h : k164.K w x cs) : cs = [.int .u16 x.f0, .int .u16 x.f1, .int .u16 x.f2] := by
  obtain ⟨_, _, rfl, rfl, ⟨_, _, rfl, rfl, rfl⟩⟩ := h
  exact rfl
theorem k164_openM {w : World} {base : Nat} {ok : Nat → Prop} {x : S164} {cs : List Value} (h : k164.M w base ok x cs) : cs = [.int .u16 x.f0, .int .u16 x.f1, .int .u16 x.f2] := by
  obtain ⟨_, _, rfl, rfl, ⟨_, _, rfl, rfl, rfl⟩⟩ := h
  exact rfl
theorem k164_mk (w : World) (x : S164)  : k164.K w x [.int .u16 x.f0, .int .u16 x.f1, .int .u16 x.f2] := ⟨[.int .u16 x.f0], [.int .u16 x.f1, .int .u16 x.f2], rfl, rfl, ⟨[.int .u16 x.f1], [.int .u16 x.f2], rfl, rfl, rfl⟩⟩
theorem k164_mkM (w : World) (base : Nat) (ok : Nat → Prop) (x : S164)  : k164.M w base ok x [.int .u16 x.f0, .int .u16 x.f1, .int .u16 x.f2] := ⟨[.int .u16 x.f0], [.int .u16 x.f1, .int .u16 x.f2], rfl, rfl, ⟨[.int .u16 x.f1], [.int .u16 x.f2], rfl, rfl, rfl⟩⟩
def rd_T164 (xs : List S164) (i : Int) : S164 := xs.getD i.toNat z164
theorem at_T164 {w : World} {A : Option Addr} {n : Nat} {xs : List S164} (h : Kd.C k164 w A n xs) (i : Int) (h0 : 0 ≤ i) (h1 : i < n) : ∃ ad , A = some ad ∧ w.cell? (ad.add (i.toNat * 3)) = some (.int .u16 (rd_T164 xs i).f0) ∧ w.cell? ⟨(ad.add (i.toNat * 3)).block, (ad.add (i.toNat * 3)).off + 1, none⟩ = some (.int .u16 (rd_T164 xs i).f1) ∧ w.cell? ⟨(ad.add (i.toNat * 3)).block, (ad.add (i.toNat * 3)).off + 2, none⟩ = some (.int .u16 (rd_T164 xs i).f2) := by
  obtain ⟨ad, c, e, _, hK, hc0⟩ := Kd.C_get h z164 i h0 h1
  have hc : ∀ j u, c[j]? = some u → w.cell? (ad.add (i.toNat * 3 + j)) = some u := hc0
  obtain rfl := k164_open hK
  exact ⟨ad, e, hc 0 _ rfl, by rw [← add_field _ _ 1 (by omega)]; exact hc 1 _ rfl, by rw [← add_field _ _ 2 (by omega)]; exact hc 2 _ rfl⟩

/-! #### struct type 167 -/
structure S167 where
  f0 : Int
  f1 : Int
  f2 : Int
def z167 : S167 := ⟨(0 : Int), (0 : Int), (0 : Int)⟩
def k167 : Kd S167 := Kd.iso (Kd.pair (Kd.int .u32) (Kd.pair (Kd.int .u32) (Kd.int .u32))) (fun x : S167 => (x.f0, x.f1, x.f2))
theorem k167_open {w : World} {x : S167} {cs : List Value} (h : k167.K w x cs) : cs = [.int .u32 x.f0, .int .u32 x.f1, .int .u32 x.f2] := by
  obtain ⟨_, _, rfl, rfl, ⟨_, _, rfl, rfl, rfl⟩⟩ := h
  exact rfl
theorem k167_openM {w : World} {base : Nat} {ok : Nat → Prop} {x : S167} {cs : List Value} (h : k167.M w base ok x cs) : cs = [.int .u32 x.f0, .int .u32 x.f1, .int .u32 x.f2] := by
  obtain ⟨_, _, rfl, rfl, ⟨_, _, rfl, rfl, rfl⟩⟩ := h
  exact rfl
theorem k167_mk (w : World) (x : S167)  : k167.K w x [.int .u32 x.f0, .int .u32 x.f1, .int .u32 x.f2] := ⟨[.int .u32 x.f0], [.int .u32 x.f1, .int .u32 x.f2], rfl, rfl, ⟨[.int .u32 x.f1], [.int .u32 x.f2], rfl, rfl, rfl⟩⟩
theorem k167_mkM (w : World) (base : Nat) (ok : Nat → Prop) (x : S167)  : k167.M w base ok x [.int .u32 x.f0, .int .u32 x.f1, .int .u32 x.f2] := ⟨[.int .u32 x.f0], [.int .u32 x.f1, .int .u32 x.f2], rfl, rfl, ⟨[.int .u32 x.f1], [.int .u32 x.f2], rfl, rfl, rfl⟩⟩
def rd_T167 (xs : List S167) (i : Int) : S167 := xs.getD i.toNat z167
theorem at_T167 {w : World} {A : Option Addr} {n : Nat} {xs : List S167} (h : Kd.C k167 w A n xs) (i : Int) (h0 : 0 ≤ i) (h1 : i < n) : ∃ ad , A = some ad ∧ w.cell? (ad.add (i.toNat * 3)) = some (.int .u32 (rd_T167 xs i).f0) ∧ w.cell? ⟨(ad.add (i.toNat * 3)).block, (ad.add (i.toNat * 3)).off + 1, none⟩ = some (.int .u32 (rd_T167 xs i).f1) ∧ w.cell? ⟨(ad.add (i.toNat * 3)).block, (ad.add (i.toNat * 3)).off + 2, none⟩ = some (.int .u32 (rd_T167 xs i).f2) := by
  obtain ⟨ad, c, e, _, hK, hc0⟩ := Kd.C_get h z167 i h0 h1
  have hc : ∀ j u, c[j]? = some u → w.cell? (ad.add (i.toNat * 3 + j)) = some u := hc0
  obtain rfl := k167_open hK
  exact ⟨ad, e, hc 0 _ rfl, by rw [← add_field _ _ 1 (by omega)]; exact hc 1 _ rfl, by rw [← add_field _ _ 2 (by omega)]; exact hc 2 _ rfl⟩

/-! #### struct type 25 -/
structure S25 where
  f0 : Int
  f1 : Int
  f2 : Int
  f3 : Int
  f4 : Int
  f5 : Int
def z25 : S25 := ⟨(0 : Int), (0 : Int), (0 : Int), (0 : Int), (0 : Int), (0 : Int)⟩
def k25 : Kd S25 := Kd.iso (Kd.pair (Kd.int .u8) (Kd.pair (Kd.int .u8) (Kd.pair (Kd.int .u8) (Kd.pair (Kd.int .u8) (Kd.pair (Kd.int .i32) (Kd.int .u32)))))) (fun x : S25 => (x.f0, x.f1, x.f2, x.f3, x.f4, x.f5))
theorem k25_open {w : World} {x : S25} {cs : List Value} (h : k25.K w x cs) : cs = [.int .u8 x.f0, .int .u8 x.f1, .int .u8 x.f2, .int .u8 x.f3, .int .i32 x.f4, .int .u32 x.f5] := by
  obtain ⟨_, _, rfl, rfl, ⟨_, _, rfl, rfl, ⟨_, _, rfl, rfl, ⟨_, _, rfl, rfl, ⟨_, _, rfl, rfl, rfl⟩⟩⟩⟩⟩ := h
  exact rfl
theorem k25_openM {w : World} {base : Nat} {ok : Nat → Prop} {x : S25} {cs : List Value} (h : k25.M w base ok x cs) : cs = [.int .u8 x.f0, .int .u8 x.f1, .int .u8 x.f2, .int .u8 x.f3, .int .i32 x.f4, .int .u32 x.f5] := by
  obtain ⟨_, _, rfl, rfl, ⟨_, _, rfl, rfl, ⟨_, _, rfl, rfl, ⟨_, _, rfl, rfl, ⟨_, _, rfl, rfl, rfl⟩⟩⟩⟩⟩ := h
  exact rfl
theorem k25_mk (w : World) (x : S25)  : k25.K w x [.int .u8 x.f0, .int .u8 x.f1, .int .u8 x.f2, .int .u8 x.f3, .int .i32 x.f4, .int .u32 x.f5] := ⟨[.int .u8 x.f0], [.int .u8 x.f1, .int .u8 x.f2, .int .u8 x.f3, .int .i32 x.f4, .int .u32 x.f5], rfl, rfl, ⟨[.int .u8 x.f1], [.int .u8 x.f2, .int .u8 x.f3, .int .i32 x.f4, .int .u32 x.f5], rfl, rfl, ⟨[.int .u8 x.f2], [.int .u8 x.f3, .int .i32 x.f4, .int .u32 x.f5], rfl, rfl, ⟨[.int .u8 x.f3], [.int .i32 x.f4, .int .u32 x.f5], rfl, rfl, ⟨[.int .i32 x.f4], [.int .u32 x.f5], rfl, rfl, rfl⟩⟩⟩⟩⟩
theorem k25_mkM (w : World) (base : Nat) (ok : Nat → Prop) (x : S25)  : k25.M w base ok x [.int .u8 x.f0, .int .u8 x.f1, .int .u8 x.f2, .int .u8 x.f3, .int .i32 x.f4, .int .u32 x.f5] := ⟨[.int .u8 x.f0], [.int .u8 x.f1, .int .u8 x.f2, .int .u8 x.f3, .int .i32 x.f4, .int .u32 x.f5], rfl, rfl, ⟨[.int .u8 x.f1], [.int .u8 x.f2, .int .u8 x.f3, .int .i32 x.f4, .int .u32 x.f5], rfl, rfl, ⟨[.int .u8 x.f2], [.int .u8 x.f3, .int .i32 x.f4, .int .u32 x.f5], rfl, rfl, ⟨[.int .u8 x.f3], [.int .i32 x.f4, .int .u32 x.f5], rfl, rfl, ⟨[.int .i32 x.f4], [.int .u32 x.f5], rfl, rfl, rfl⟩⟩⟩⟩⟩
def rd_T25 (xs : List S25) (i : Int) : S25 := xs.getD i.toNat z25
theorem at_T25 {w : World} {A : Option Addr} {n : Nat} {xs : List S25} (h : Kd.C k25 w A n xs) (i : Int) (h0 : 0 ≤ i) (h1 : i < n) : ∃ ad , A = some ad ∧ w.cell? (ad.add (i.toNat * 6)) = some (.int .u8 (rd_T25 xs i).f0) ∧ w.cell? ⟨(ad.add (i.toNat * 6)).block, (ad.add (i.toNat * 6)).off + 1, none⟩ = some (.int .u8 (rd_T25 xs i).f1) ∧ w.cell? ⟨(ad.add (i.toNat * 6)).block, (ad.add (i.toNat * 6)).off + 2, none⟩ = some (.int .u8 (rd_T25 xs i).f2) ∧ w.cell? ⟨(ad.add (i.toNat * 6)).block, (ad.add (i.toNat * 6)).off + 3, none⟩ = some (.int .u8 (rd_T25 xs i).f3) ∧ w.cell? ⟨(ad.add (i.toNat * 6)).block, (ad.add (i.toNat * 6)).off + 4, none⟩ = some (.int .i32 (rd_T25 xs i).f4) ∧ w.cell? ⟨(ad.add (i.toNat * 6)).block, (ad.add (i.toNat * 6)).off + 5, none⟩ = some (.int .u32 (rd_T25 xs i).f5) := by
  obtain ⟨ad, c, e, _, hK, hc0⟩ := Kd.C_get h z25 i h0 h1
  have hc : ∀ j u, c[j]? = some u → w.cell? (ad.add (i.toNat * 6 + j)) = some u := hc0
  obtain rfl := k25_open hK
  exact ⟨ad, e, hc 0 _ rfl, by rw [← add_field _ _ 1 (by omega)]; exact hc 1 _ rfl, by rw [← add_field _ _ 2 (by omega)]; exact hc 2 _ rfl, by rw [← add_field _ _ 3 (by omega)]; exact hc 3 _ rfl, by rw [← add_field _ _ 4 (by omega)]; exact hc 4 _ rfl, by rw [← add_field _ _ 5 (by omega)]; exact hc 5 _ rfl⟩

/-! #### struct type 29 -/
structure S29 where
  f0 : Int
  f1 : Int
  f2 : Int
  f3 : Int
  f4 : Int
  f5 : Int
def z29 : S29 := ⟨(0 : Int), (0 : Int), (0 : Int), (0 : Int), (0 : Int), (0 : Int)⟩
def k29 : Kd S29 := Kd.iso (Kd.pair (Kd.int .u8) (Kd.pair (Kd.int .u8) (Kd.pair (Kd.int .u8) (Kd.pair (Kd.int .u8) (Kd.pair (Kd.int .i32) (Kd.int .u32)))))) (fun x : S29 => (x.f0, x.f1, x.f2, x.f3, x.f4, x.f5))
theorem k29_open {w : World} {x : S29} {cs : List Value} (h : k29.K w x cs) : cs = [.int .u8 x.f0, .int .u8 x.f1, .int .u8 x.f2, .int .u8 x.f3, .int .i32 x.f4, .int .u32 x.f5] := by
  obtain ⟨_, _, rfl, rfl, ⟨_, _, rfl, rfl, ⟨_, _, rfl, rfl, ⟨_, _, rfl, rfl, ⟨_, _, rfl, rfl, rfl⟩⟩⟩⟩⟩ := h
  exact rfl
theorem k29_openM {w : World} {base : Nat} {ok : Nat → Prop} {x : S29} {cs : List Value} (h : k29.M w base ok x cs) : cs = [.int .u8 x.f0, .int .u8 x.f1, .int .u8 x.f2, .int .u8 x.f3, .int .i32 x.f4, .int .u32 x.f5] := by
  obtain ⟨_, _, rfl, rfl, ⟨_, _, rfl, rfl, ⟨_, _, rfl, rfl, ⟨_, _, rfl, rfl, ⟨_, _, rfl, rfl, rfl⟩⟩⟩⟩⟩ := h
  exact rfl
theorem k29_mk (w : World) (x : S29)  : k29.K w x [.int .u8 x.f0, .int .u8 x.f1, .int .u8 x.f2, .int .u8 x.f3, .int .i32 x.f4, .int .u32 x.f5] := ⟨[.int .u8 x.f0], [.int .u8 x.f1, .int .u8 x.f2, .int .u8 x.f3, .int .i32 x.f4, .int .u32 x.f5], rfl, rfl, ⟨[.int .u8 x.f1], [.int .u8 x.f2, .int .u8 x.f3, .int .i32 x.f4, .int .u32 x.f5], rfl, rfl, ⟨[.int .u8 x.f2], [.int .u8 x.f3, .int .i32 x.f4, .int .u32 x.f5], rfl, rfl, ⟨[.int .u8 x.f3], [.int .i32 x.f4, .int .u32 x.f5], rfl, rfl, ⟨[.int .i32 x.f4], [.int .u32 x.f5], rfl, rfl, rfl⟩⟩⟩⟩⟩
theorem k29_mkM (w : World) (base : Nat) (ok : Nat → Prop) (x : S29)  : k29.M w base ok x [.int .u8 x.f0, .int .u8 x.f1, .int .u8 x.f2, .int .u8 x.f3, .int .i32 x.f4, .int .u32 x.f5] := ⟨[.int .u8 x.f0], [.int .u8 x.f1, .int .u8 x.f2, .int .u8 x.f3, .int .i32 x.f4, .int .u32 x.f5], rfl, rfl, ⟨[.int .u8 x.f1], [.int .u8 x.f2, .int .u8 x.f3, .int .i32 x.f4, .int .u32 x.f5], rfl, rfl, ⟨[.int .u8 x.f2], [.int .u8 x.f3, .int .i32 x.f4, .int .u32 x.f5], rfl, rfl, ⟨[.int .u8 x.f3], [.int .i32 x.f4, .int .u32 x.f5], rfl, rfl, ⟨[.int .i32 x.f4], [.int .u32 x.f5], rfl, rfl, rfl⟩⟩⟩⟩⟩
def rd_T29 (xs : List S29) (i : Int) : S29 := xs.getD i.toNat z29
theorem at_T29 {w : World} {A : Option Addr} {n : Nat} {xs : List S29} (h : Kd.C k29 w A n xs) (i : Int) (h0 : 0 ≤ i) (h1 : i < n) : ∃ ad , A = some ad ∧ w.cell? (ad.add (i.toNat * 6)) = some (.int .u8 (rd_T29 xs i).f0) ∧ w.cell? ⟨(ad.add (i.toNat * 6)).block, (ad.add (i.toNat * 6)).off + 1, none⟩ = some (.int .u8 (rd_T29 xs i).f1) ∧ w.cell? ⟨(ad.add (i.toNat * 6)).block, (ad.add (i.toNat * 6)).off + 2, none⟩ = some (.int .u8 (rd_T29 xs i).f2) ∧ w.cell? ⟨(ad.add (i.toNat * 6)).block, (ad.add (i.toNat * 6)).off + 3, none⟩ = some (.int .u8 (rd_T29 xs i).f3) ∧ w.cell? ⟨(ad.add (i.toNat * 6)).block, (ad.add (i.toNat * 6)).off + 4, none⟩ = some (.int .i32 (rd_T29 xs i).f4) ∧ w.cell? ⟨(ad.add (i.toNat * 6)).block, (ad.add (i.toNat * 6)).off + 5, none⟩ = some (.int .u32 (rd_T29 xs i).f5) := by
  obtain ⟨ad, c, e, _, hK, hc0⟩ := Kd.C_get h z29 i h0 h1
  have hc : ∀ j u, c[j]? = some u → w.cell? (ad.add (i.toNat * 6 + j)) = some u := hc0
  obtain rfl := k29_open hK
  exact ⟨ad, e, hc 0 _ rfl, by rw [← add_field _ _ 1 (by omega)]; exact hc 1 _ rfl, by rw [← add_field _ _ 2 (by omega)]; exact hc 2 _ rfl, by rw [← add_field _ _ 3 (by omega)]; exact hc 3 _ rfl, by rw [← add_field _ _ 4 (by omega)]; exact hc 4 _ rfl, by rw [← add_field _ _ 5 (by omega)]; exact hc 5 _ rfl⟩

-- NOT PRINTED: function 38 (code_uses)

/-! ### code_register: function 66 -/
def code_register.f (a0 : Bool) (a1 : Int) : Option (Bool) := if a1 = 0 then (some true) else (if a0 = true then (some (decide (a1 < 8))) else (some false))
set_option maxHeartbeats 8000000 in
set_option maxRecDepth 100000 in
theorem code_register.calls (a0 : Bool) (a1 : Int) (r : Bool) (w : World) (h : code_register.f a0 a1 = some r) :
    Calls Tryd.prog 66 #[.bool a0, .int .u8 a1] w fun e w' => e = .returned (.bool r) ∧ Drawn0 w w' := by
  have H : (if a1 = 0 then (some true) else (if a0 = true then (some (decide (a1 < 8))) else (some false))) = some r := h
  clear h
  by_cases c3 : a1 = 0
  · rw [if_pos c3] at H
    have c3b0 : (a1 == 0) = true := beq_iff_eq.mpr c3
    have c3b1 : (a1 != 0) = false := bne_eq_false_iff_eq.mpr c3
    clear c3
    obtain rfl := Option.some.inj H
    go_enter Tryd.func66, Tryd.ntmps66
    go_wp2
    go_ret
    exact ⟨by first | rfl | (simp; done) | (simp [*]; done), by repeat (first | exact Drawn0.refl _ | apply Drawn0.step)⟩
  · rw [if_neg c3] at H
    have c3b0 : (a1 == 0) = false := beq_eq_false_iff_ne.mpr c3
    have c3b1 : (a1 != 0) = true := bne_iff_ne.mpr c3
    by_cases c4 : a0 = true
    · subst c4
      have H1 : (some (decide (a1 < 8))) = some r := by rw [if_pos rfl] at H; exact H
      clear H
      have H := H1
      clear H1
      obtain rfl := Option.some.inj H
      go_enter Tryd.func66, Tryd.ntmps66
      go_wp2
      go_ret
      exact ⟨by first | rfl | (simp; done) | (simp [*]; done), by repeat (first | exact Drawn0.refl _ | apply Drawn0.step)⟩
    · replace c4 := Bool.eq_false_iff.mpr c4
      subst c4
      have H1 : (some false) = some r := by rw [if_neg (show ¬ (false = true) by decide)] at H; exact H
      clear H
      have H := H1
      clear H1
      obtain rfl := Option.some.inj H
      go_enter Tryd.func66, Tryd.ntmps66
      go_wp2
      go_ret
      exact ⟨by first | rfl | (simp; done) | (simp [*]; done), by repeat (first | exact Drawn0.refl _ | apply Drawn0.step)⟩

/-! ### hoodwinklaw08_own: function 12 -/
def hoodwinklaw08_own.l0 : Nat → List (S29) → List (S25) → Int → Int → Option ((List (S29)))
  | 0, _, _, _, _ => none
  | k + 1, x3, x6, x7, x8 => if x8 < x7 then (if 0 ≤ x8 then (if x8 < (x6.length : Int) then (if x3.length < 11728124029610 then (hoodwinklaw08_own.l0 k (x3 ++ [(⟨(rd_T25 x6 x8).f0, (rd_T25 x6 x8).f1, (rd_T25 x6 x8).f2, (rd_T25 x6 x8).f3, (rd_T25 x6 x8).f4, (rd_T25 x6 x8).f5⟩ : S29)]) x6 x7 (wrap64 (x8 + 1))) else (none)) else (none)) else (none)) else (some x3)
def hoodwinklaw08_own.f (k : Nat) (l0 : List (S25)) : Option ((List (S29))) := hoodwinklaw08_own.l0 k ([] : List (S29)) l0 (l0.length : Int) 0
theorem hoodwinklaw08_own.mono_l : ∀ k, (∀ y0 y1 y2 y3, LeO (hoodwinklaw08_own.l0 k y0 y1 y2 y3) (hoodwinklaw08_own.l0 (k + 1) y0 y1 y2 y3))
  | 0 => fun _ _ _ _ r h => by simp [hoodwinklaw08_own.l0] at h
  | k + 1 => by
    have ih0 := hoodwinklaw08_own.mono_l k
    · intro y0 y1 y2 y3
      unfold hoodwinklaw08_own.l0
      repeat' first
      | (with_reducible exact ih0 _ _ _ _)
      | (with_reducible exact LeO.refl _)
      | (with_reducible exact LeO.none _)
      | (with_reducible refine LeO.ite ?_ ?_)
      | (with_reducible refine LeO.bind ?_ (fun _ => ?_))
      | exact ih0 _ _ _ _
      | exact LeO.none _
      | refine LeO.ite ?_ ?_
      | refine LeO.bind ?_ (fun _ => ?_)
theorem hoodwinklaw08_own.mono : ∀ a0 k, LeO (hoodwinklaw08_own.f k a0) (hoodwinklaw08_own.f (k + 1) a0) := by
  intro a0 k
  have ih0 := hoodwinklaw08_own.mono_l k
  unfold hoodwinklaw08_own.f
  repeat' first
      | (with_reducible exact ih0 _ _ _ _)
      | (with_reducible exact LeO.refl _)
      | (with_reducible exact LeO.none _)
      | (with_reducible refine LeO.ite ?_ ?_)
      | (with_reducible refine LeO.bind ?_ (fun _ => ?_))
      | exact ih0 _ _ _ _
      | exact LeO.none _
      | refine LeO.ite ?_ ?_
      | refine LeO.bind ?_ (fun _ => ?_)
set_option maxHeartbeats 8000000 in
set_option maxRecDepth 100000 in
theorem hoodwinklaw08_own.calls (k : Nat) (A0 : Option Addr) (c0 : Nat) (l0 : List (S25)) (r : List (S29)) (w : World) (hr0 : Kd.C k25 w A0 l0.length l0) (hc0 : l0.length ≤ c0) (h : hoodwinklaw08_own.f k l0 = some r) :
    Calls Tryd.prog 12 #[.slice A0 l0.length c0] w fun e w' => ∃ v0_ : Value, e = .returned (v0_) ∧ Kd.R k29 29 w' w.heap.size (fun _ => True) v0_ r ∧ Below w.heap.size w w' := by
  have hu25 := Tryd.underlying25
  have hu29 := Tryd.underlying29
  have HR0 := Aside0.mk hr0
  have HC0 := Aside0.mk hc0
  clear hr0 hc0
  have HB := Aside0.mk (Below.refl w.heap.size w)
  have H : (hoodwinklaw08_own.l0 k ([] : List (S29)) l0 (l0.length : Int) 0) = some r := h
  clear h
  have H' := Aside0.mk H
  clear H
  go_enter Tryd.func12, Tryd.ntmps12
  go_wp2
  go_loopg [3, 8] k (fun kq v3 v8 w' => ∃ (x3_1 : List (S29)) (x8_1 : Int), v8 = .int .i64 x8_1 ∧ Aside0 (hoodwinklaw08_own.l0 kq x3_1 l0 (l0.length : Int) x8_1 = some r) ∧ Aside0 (kq ≤ k) ∧ Aside0 (Kd.R k29 29 w' w.heap.size (fun _ => True) v3 x3_1) ∧ Aside0 (Below w.heap.size w w'))
  case atStart => exact ⟨(([] : List (S29))), (0), (by first | rfl | (simp; done) | (simp [*]; done)), H', ⟨Nat.le_refl _⟩, ⟨by first | exact Kd.R_nil _ _ _ _ _ | exact Kd.N_nil _ _ _ _ _ | exact Kd.V_nil _ _ _ _ _ | exact Kd.Q_nil _ _ _ _ _ | exact Kd.S_nil _ _ _ _ _⟩, ⟨by repeat (first | (with_reducible first | exact HB.out | apply below_alloc | apply pw_below_drewN | apply below_drew1) | exact HB.out)⟩⟩
  case round =>
    clear H'
    try clear c1
    obtain ⟨x3_1, x8_1, rfl, HA, HK1, HO_3, HB⟩ := hrel
    cases gk with
    | zero => exact absurd HA.out (by simp [hoodwinklaw08_own.l0])
    | succ k1 =>
      have H := HA.out
      clear HA
      simp only [hoodwinklaw08_own.l0] at H
      by_cases c2 : x8_1 < (l0.length : Int)
      · rw [if_pos c2] at H
        have c2b0 : decide (x8_1 < (l0.length : Int)) = true := decide_eq_true c2
        clear c2
        by_cases c3 : 0 ≤ x8_1
        · rw [if_pos c3] at H
          have c3b0 : decide (0 ≤ x8_1) = true := decide_eq_true c3
          clear c3
          by_cases c4 : x8_1 < (l0.length : Int)
          · rw [if_pos c4] at H
            have c4b0 : decide (x8_1 < (l0.length : Int)) = true := decide_eq_true c4
            clear c4
            by_cases c5 : x3_1.length < 11728124029610
            · rw [if_pos c5] at H
              have LMc5 := Aside0.mk c5
              clear c5
              obtain ⟨y127, hy127⟩ : ∃ y_ : List (S29), y_ = (x3_1 ++ [(⟨(rd_T25 l0 x8_1).f0, (rd_T25 l0 x8_1).f1, (rd_T25 l0 x8_1).f2, (rd_T25 l0 x8_1).f3, (rd_T25 l0 x8_1).f4, (rd_T25 l0 x8_1).f5⟩ : S29)]) := ⟨_, rfl⟩
              replace H : (hoodwinklaw08_own.l0 k1 y127 l0 (l0.length : Int) (wrap64 (x8_1 + 1))) = some r := by first | (rw [hy127]; with_reducible exact H) | (have H2_ := (Option.bind_some _ _).symm.trans H; rw [hy127]; with_reducible exact H2_) | (have H2_ := (Option.bind_some _ _).symm.trans H; with_reducible exact H2_) | with_reducible exact H | (rw [hy127]; exact H) | exact H
              have Ny127 := Aside0.mk hy127
              clear hy127
              have H' := Aside0.mk H
              clear H
              have p125 : 0 ≤ (x8_1 : Int) := of_decide_eq_true (by first | (with_reducible assumption) | assumption)
              have q125 : x8_1 < (l0.length : Int) := of_decide_eq_true (by first | (with_reducible assumption) | assumption)
              obtain ⟨ad125, e125, hx125_0, hx125_1, hx125_2, hx125_3, hx125_4, hx125_5⟩ := at_T25 HR0.out x8_1 p125 q125
              cases e125
              replace hx125_0 := (HB.out.cell (World.block_lt_of_cell? w _ hx125_0)).trans hx125_0
              replace hx125_1 := (HB.out.cell (World.block_lt_of_cell? w _ hx125_1)).trans hx125_1
              replace hx125_2 := (HB.out.cell (World.block_lt_of_cell? w _ hx125_2)).trans hx125_2
              replace hx125_3 := (HB.out.cell (World.block_lt_of_cell? w _ hx125_3)).trans hx125_3
              replace hx125_4 := (HB.out.cell (World.block_lt_of_cell? w _ hx125_4)).trans hx125_4
              replace hx125_5 := (HB.out.cell (World.block_lt_of_cell? w _ hx125_5)).trans hx125_5
              replace p125 := eq_true p125
              replace q125 := eq_true q125
              go_wp2_with (first | ((with_reducible refine gate_dst (N := 5) rfl ?_); refine box_event ?hg (N := 5) ?hd (cs := #[.int .u8 0, .int .u8 0, .int .u8 0, .int .u8 0, .int .i32 0, .int .u32 0]) (t := 25) ?hr ?_; (case hd => rfl); (case hg => rfl); (case hr => first | (go_simp; done) | (go_simp; rfl)); intro gb126 hg w6 hbox hb; have n0_ := Aside0.mk (Kd.R_below (by (with_reducible repeat (first | apply Kd.R_alloc | apply Kd.R_drewN | apply Kd.R_drew)); exact HO_3.out) hb); have n1_ := Aside0.mk (below_step (by repeat (first | (with_reducible first | exact HB.out | apply below_alloc | apply pw_below_drewN | apply below_drew1) | exact HB.out)) hb); have n2_ := Aside0.mk (hbox); have n3_ := Aside0.mk ((by rw [hg]; exact (below_size (by repeat (first | (with_reducible first | exact HB.out | apply below_alloc | apply pw_below_drewN | apply below_drew1) | exact HB.out))) : w.heap.size ≤ gb126)); have n4_ := Aside0.mk ((by rw [hg]; exact (below_size (by repeat (first | (with_reducible first | exact HB.out | apply below_alloc | apply pw_below_drewN | apply below_drew1) | exact HB.out))) : w.heap.size ≤ gb126)); clear HO_3; clear HB; have HO_3 := n0_; have HB := n1_; have BK126 := n2_; have GW126 := n3_; have GE126 := n4_; clear n0_ n1_ n2_ n3_ n4_; clear hb hbox hg; have hcz7_0 : w6.cell? ⟨gb126, 0, none⟩ = some (.int .u8 0) := (blk_cell BK126.out 0).trans rfl; have hcz7_1 : w6.cell? ⟨gb126, 1, none⟩ = some (.int .u8 0) := (blk_cell BK126.out 1).trans rfl; have hcz7_2 : w6.cell? ⟨gb126, 2, none⟩ = some (.int .u8 0) := (blk_cell BK126.out 2).trans rfl; have hcz7_3 : w6.cell? ⟨gb126, 3, none⟩ = some (.int .u8 0) := (blk_cell BK126.out 3).trans rfl; have hcz7_4 : w6.cell? ⟨gb126, 4, none⟩ = some (.int .i32 0) := (blk_cell BK126.out 4).trans rfl; have hcz7_5 : w6.cell? ⟨gb126, 5, none⟩ = some (.int .u32 0) := (blk_cell BK126.out 5).trans rfl; have hfz7_0 := blk_frozen BK126.out 0; have hfz7_1 := blk_frozen BK126.out 1; have hfz7_2 := blk_frozen BK126.out 2; have hfz7_3 := blk_frozen BK126.out 3; have hfz7_4 := blk_frozen BK126.out 4; have hfz7_5 := blk_frozen BK126.out 5) | ((with_reducible refine gate_builtin (b := .append) (xs := #[.tmp 12, .tmp 26]) rfl ?_); at_builtin; refine Kd.R_append k29 (w0 := w) w.heap.size rfl (.tmp 12) (.tmp 26) 30 29 (.agg #[(.int .u8 0), (.int .u8 0), (.int .u8 0), (.int .u8 0), (.int .i32 0), (.int .u32 0)]) 12 rfl Tryd.underlying30 info29 rfl (by decide) (by omega) u3 x3_1 (⟨(rd_T25 l0 x8_1).f0, (rd_T25 l0 x8_1).f1, (rd_T25 l0 x8_1).f2, (rd_T25 l0 x8_1).f3, (rd_T25 l0 x8_1).f4, (rd_T25 l0 x8_1).f5⟩ : S29) [.int .u8 ((rd_T25 l0 x8_1).f0), .int .u8 ((rd_T25 l0 x8_1).f1), .int .u8 ((rd_T25 l0 x8_1).f2), .int .u8 ((rd_T25 l0 x8_1).f3), .int .i32 ((rd_T25 l0 x8_1).f4), .int .u32 ((rd_T25 l0 x8_1).f5)] (fun _ => True) (fun _ => False) rfl (by first | (go_simp; done) | (go_simp; rfl)) ?aP (fun _ hk => hk.elim) ?aF ?aO ?aB ?aS ?aL ?_; (case aP => exact k29_mkM _ _ _ (⟨(rd_T25 l0 x8_1).f0, (rd_T25 l0 x8_1).f1, (rd_T25 l0 x8_1).f2, (rd_T25 l0 x8_1).f3, (rd_T25 l0 x8_1).f4, (rd_T25 l0 x8_1).f5⟩ : S29)); (case aB => exact (by repeat (first | (with_reducible first | exact HB.out | apply below_alloc | apply pw_below_drewN | apply below_drew1 | refine below_set ?_ GE126.out) | exact HB.out))); (case aF => exact (fun _ _ => trivial)); (case aO => exact (by (with_reducible repeat (first | apply Kd.R_alloc | apply Kd.R_drewN | apply Kd.R_drew)); exact Kd.R_mono (Kd.R_far (p := ⟨gb126, 5, none⟩) (Kd.R_far (p := ⟨gb126, 4, none⟩) (Kd.R_far (p := ⟨gb126, 3, none⟩) (Kd.R_far (p := ⟨gb126, 2, none⟩) (Kd.R_far (p := ⟨gb126, 1, none⟩) (Kd.R_far (p := ⟨gb126, 0, none⟩) (Kd.R_types HO_3.out BK126.out (by decide)) (fun _ hk => hk.2) (.int .u8 ((rd_T25 l0 x8_1).f0))) (fun _ hk => hk.2) (.int .u8 ((rd_T25 l0 x8_1).f1))) (fun _ hk => hk.2) (.int .u8 ((rd_T25 l0 x8_1).f2))) (fun _ hk => hk.2) (.int .u8 ((rd_T25 l0 x8_1).f3))) (fun _ hk => hk.2) (.int .i32 ((rd_T25 l0 x8_1).f4))) (fun _ hk => hk.2) (.int .u32 ((rd_T25 l0 x8_1).f5))) (fun _ hk => trivial))); (case aS => exact (below_size (by repeat (first | (with_reducible first | exact HB.out | apply below_alloc | apply pw_below_drewN | apply below_drew1 | refine below_set ?_ GE126.out) | exact HB.out)))); (case aL => have := LMc5.out; omega); intro v128 w8 ho hb hg hat; rw [← Ny127.out] at ho; have n0_ := Aside0.mk (blk_grown (g := gb126) (o := .cells #[.int .u8 ((rd_T25 l0 x8_1).f0), .int .u8 ((rd_T25 l0 x8_1).f1), .int .u8 ((rd_T25 l0 x8_1).f2), .int .u8 ((rd_T25 l0 x8_1).f3), .int .i32 ((rd_T25 l0 x8_1).f4), .int .u32 ((rd_T25 l0 x8_1).f5)] 25 (0, 0)) (by (with_reducible repeat (first | refine blk_drewN ?_ _ | refine blk_drew ?_ | refine blk_alloc ?_ _)); refine blk_put (cs := #[.int .u8 ((rd_T25 l0 x8_1).f0), .int .u8 ((rd_T25 l0 x8_1).f1), .int .u8 ((rd_T25 l0 x8_1).f2), .int .u8 ((rd_T25 l0 x8_1).f3), .int .i32 ((rd_T25 l0 x8_1).f4), .int .u32 0]) ?_ 5 _ rfl; (with_reducible repeat (first | refine blk_drewN ?_ _ | refine blk_drew ?_ | refine blk_alloc ?_ _)); refine blk_put (cs := #[.int .u8 ((rd_T25 l0 x8_1).f0), .int .u8 ((rd_T25 l0 x8_1).f1), .int .u8 ((rd_T25 l0 x8_1).f2), .int .u8 ((rd_T25 l0 x8_1).f3), .int .i32 0, .int .u32 0]) ?_ 4 _ rfl; (with_reducible repeat (first | refine blk_drewN ?_ _ | refine blk_drew ?_ | refine blk_alloc ?_ _)); refine blk_put (cs := #[.int .u8 ((rd_T25 l0 x8_1).f0), .int .u8 ((rd_T25 l0 x8_1).f1), .int .u8 ((rd_T25 l0 x8_1).f2), .int .u8 0, .int .i32 0, .int .u32 0]) ?_ 3 _ rfl; (with_reducible repeat (first | refine blk_drewN ?_ _ | refine blk_drew ?_ | refine blk_alloc ?_ _)); refine blk_put (cs := #[.int .u8 ((rd_T25 l0 x8_1).f0), .int .u8 ((rd_T25 l0 x8_1).f1), .int .u8 0, .int .u8 0, .int .i32 0, .int .u32 0]) ?_ 2 _ rfl; (with_reducible repeat (first | refine blk_drewN ?_ _ | refine blk_drew ?_ | refine blk_alloc ?_ _)); refine blk_put (cs := #[.int .u8 ((rd_T25 l0 x8_1).f0), .int .u8 0, .int .u8 0, .int .u8 0, .int .i32 0, .int .u32 0]) ?_ 1 _ rfl; (with_reducible repeat (first | refine blk_drewN ?_ _ | refine blk_drew ?_ | refine blk_alloc ?_ _)); refine blk_put (cs := #[.int .u8 0, .int .u8 0, .int .u8 0, .int .u8 0, .int .i32 0, .int .u32 0]) ?_ 0 _ rfl; (with_reducible repeat (first | refine blk_drewN ?_ _ | refine blk_drew ?_ | refine blk_alloc ?_ _)); exact BK126.out) hg (Kd.R_ne HO_3.out BK126.out (by decide))); have n1_ := Aside0.mk (hb); have n2_ := Aside0.mk (ho); clear BK126; clear HB; clear HO_3; have BK126 := n0_; have HB := n1_; have HO129 := n2_; clear n0_ n1_ n2_; clear ho hb hg hat))
              go_roundg k1
              case measure => have := HK1.out; omega
              case rel => exact ⟨(y127), (wrap64 (x8_1 + 1)), (by first | rfl | (simp; done) | (simp [*]; done)), H', ⟨by have := HK1.out; omega⟩, ⟨by (with_reducible repeat (first | apply Kd.R_alloc | apply Kd.R_drewN | apply Kd.R_drew)); exact HO129.out⟩, ⟨by repeat (first | (with_reducible first | exact HB.out | apply below_alloc | apply pw_below_drewN | apply below_drew1 | refine below_set ?_ GE126.out) | exact HB.out)⟩⟩
            · rw [if_neg c5] at H
              exact absurd H (by simp)
          · rw [if_neg c4] at H
            exact absurd H (by simp)
        · rw [if_neg c3] at H
          exact absurd H (by simp)
      · rw [if_neg c2] at H
        have c2b0 : decide (x8_1 < (l0.length : Int)) = false := decide_eq_false c2
        clear c2
        obtain rfl := Option.some.inj H
        go_wp2
        go_ret
        exact ⟨_, by first | rfl | (simp [errW_none, errW_some] <;> rfl) | (simp [*, errW_none, errW_some] <;> rfl), by (with_reducible repeat (first | apply Kd.R_alloc | apply Kd.R_drewN | apply Kd.R_drew)); exact HO_3.out, by repeat (first | (with_reducible first | exact HB.out | apply below_alloc | apply pw_below_drewN | apply below_drew1) | exact HB.out)⟩

/-! ### hoodwinkref08_Table: function 33 -/
def hoodwinkref08_Table.f  : Option (List ByteArray) := some (([(⟨#[115, 116, 111, 112, 32]⟩ : ByteArray), (⟨#[115, 101, 116, 32, 65, 110]⟩ : ByteArray), (⟨#[108, 111, 97, 100, 32, 65, 99]⟩ : ByteArray), (⟨#[115, 116, 111, 114, 101, 32, 65, 99]⟩ : ByteArray), (⟨#[108, 111, 97, 100, 97, 116, 32, 65, 66, 99]⟩ : ByteArray), (⟨#[115, 116, 111, 114, 101, 97, 116, 32, 65, 66, 99]⟩ : ByteArray), (⟨#[97, 100, 100, 32, 65, 66, 67]⟩ : ByteArray), (⟨#[115, 117, 98, 32, 65, 66, 67]⟩ : ByteArray), (⟨#[109, 117, 108, 32, 65, 66, 67]⟩ : ByteArray), (⟨#[100, 105, 118, 32, 65, 66, 67]⟩ : ByteArray), (⟨#[109, 111, 100, 32, 65, 66, 67]⟩ : ByteArray), (⟨#[97, 110, 100, 32, 65, 66, 67]⟩ : ByteArray), (⟨#[111, 114, 32, 65, 66, 67]⟩ : ByteArray), (⟨#[120, 111, 114, 32, 65, 66, 67]⟩ : ByteArray), (⟨#[115, 104, 108, 32, 65, 66, 67]⟩ : ByteArray), (⟨#[115, 104, 114, 32, 65, 66, 67]⟩ : ByteArray), (⟨#[108, 101, 115, 115, 32, 65, 66, 67]⟩ : ByteArray), (⟨#[101, 113, 117, 97, 108, 32, 65, 66, 67]⟩ : ByteArray), (⟨#[115, 101, 108, 101, 99, 116, 32, 65, 66, 67]⟩ : ByteArray), (⟨#[98, 114, 97, 110, 99, 104, 32, 65, 112]⟩ : ByteArray), (⟨#[106, 117, 109, 112, 32, 112]⟩ : ByteArray), (⟨#[109, 111, 118, 101, 32, 65, 109]⟩ : ByteArray), (⟨#[114, 101, 118, 101, 97, 108, 32, 66, 99, 75]⟩ : ByteArray), (⟨#[114, 111, 108, 108, 32, 65, 115]⟩ : ByteArray), (⟨#[115, 104, 117, 102, 102, 108, 101, 32, 114]⟩ : ByteArray), (⟨#[99, 108, 111, 99, 107, 32, 65]⟩ : ByteArray)] : List ByteArray))
set_option maxHeartbeats 8000000 in
set_option maxRecDepth 100000 in
theorem hoodwinkref08_Table.calls  (r : List ByteArray) (w : World) (h : hoodwinkref08_Table.f  = some r) :
    Calls Tryd.prog 33 #[] w fun e w' => ∃ v0_ : Value, e = .returned (v0_) ∧ Kd.R Kd.string 9 w' w.heap.size (fun _ => True) v0_ r ∧ Below w.heap.size w w' := by
  have HB := Aside0.mk (Below.refl w.heap.size w)
  have H : (some (([(⟨#[115, 116, 111, 112, 32]⟩ : ByteArray), (⟨#[115, 101, 116, 32, 65, 110]⟩ : ByteArray), (⟨#[108, 111, 97, 100, 32, 65, 99]⟩ : ByteArray), (⟨#[115, 116, 111, 114, 101, 32, 65, 99]⟩ : ByteArray), (⟨#[108, 111, 97, 100, 97, 116, 32, 65, 66, 99]⟩ : ByteArray), (⟨#[115, 116, 111, 114, 101, 97, 116, 32, 65, 66, 99]⟩ : ByteArray), (⟨#[97, 100, 100, 32, 65, 66, 67]⟩ : ByteArray), (⟨#[115, 117, 98, 32, 65, 66, 67]⟩ : ByteArray), (⟨#[109, 117, 108, 32, 65, 66, 67]⟩ : ByteArray), (⟨#[100, 105, 118, 32, 65, 66, 67]⟩ : ByteArray), (⟨#[109, 111, 100, 32, 65, 66, 67]⟩ : ByteArray), (⟨#[97, 110, 100, 32, 65, 66, 67]⟩ : ByteArray), (⟨#[111, 114, 32, 65, 66, 67]⟩ : ByteArray), (⟨#[120, 111, 114, 32, 65, 66, 67]⟩ : ByteArray), (⟨#[115, 104, 108, 32, 65, 66, 67]⟩ : ByteArray), (⟨#[115, 104, 114, 32, 65, 66, 67]⟩ : ByteArray), (⟨#[108, 101, 115, 115, 32, 65, 66, 67]⟩ : ByteArray), (⟨#[101, 113, 117, 97, 108, 32, 65, 66, 67]⟩ : ByteArray), (⟨#[115, 101, 108, 101, 99, 116, 32, 65, 66, 67]⟩ : ByteArray), (⟨#[98, 114, 97, 110, 99, 104, 32, 65, 112]⟩ : ByteArray), (⟨#[106, 117, 109, 112, 32, 112]⟩ : ByteArray), (⟨#[109, 111, 118, 101, 32, 65, 109]⟩ : ByteArray), (⟨#[114, 101, 118, 101, 97, 108, 32, 66, 99, 75]⟩ : ByteArray), (⟨#[114, 111, 108, 108, 32, 65, 115]⟩ : ByteArray), (⟨#[115, 104, 117, 102, 102, 108, 101, 32, 114]⟩ : ByteArray), (⟨#[99, 108, 111, 99, 107, 32, 65]⟩ : ByteArray)] : List ByteArray))) = some r := h
  clear h
  obtain ⟨y140, hy140⟩ : ∃ y_ : List ByteArray, y_ = (([(⟨#[115, 116, 111, 112, 32]⟩ : ByteArray), (⟨#[115, 101, 116, 32, 65, 110]⟩ : ByteArray), (⟨#[108, 111, 97, 100, 32, 65, 99]⟩ : ByteArray), (⟨#[115, 116, 111, 114, 101, 32, 65, 99]⟩ : ByteArray), (⟨#[108, 111, 97, 100, 97, 116, 32, 65, 66, 99]⟩ : ByteArray), (⟨#[115, 116, 111, 114, 101, 97, 116, 32, 65, 66, 99]⟩ : ByteArray), (⟨#[97, 100, 100, 32, 65, 66, 67]⟩ : ByteArray), (⟨#[115, 117, 98, 32, 65, 66, 67]⟩ : ByteArray), (⟨#[109, 117, 108, 32, 65, 66, 67]⟩ : ByteArray), (⟨#[100, 105, 118, 32, 65, 66, 67]⟩ : ByteArray), (⟨#[109, 111, 100, 32, 65, 66, 67]⟩ : ByteArray), (⟨#[97, 110, 100, 32, 65, 66, 67]⟩ : ByteArray), (⟨#[111, 114, 32, 65, 66, 67]⟩ : ByteArray), (⟨#[120, 111, 114, 32, 65, 66, 67]⟩ : ByteArray), (⟨#[115, 104, 108, 32, 65, 66, 67]⟩ : ByteArray), (⟨#[115, 104, 114, 32, 65, 66, 67]⟩ : ByteArray), (⟨#[108, 101, 115, 115, 32, 65, 66, 67]⟩ : ByteArray), (⟨#[101, 113, 117, 97, 108, 32, 65, 66, 67]⟩ : ByteArray), (⟨#[115, 101, 108, 101, 99, 116, 32, 65, 66, 67]⟩ : ByteArray), (⟨#[98, 114, 97, 110, 99, 104, 32, 65, 112]⟩ : ByteArray), (⟨#[106, 117, 109, 112, 32, 112]⟩ : ByteArray), (⟨#[109, 111, 118, 101, 32, 65, 109]⟩ : ByteArray), (⟨#[114, 101, 118, 101, 97, 108, 32, 66, 99, 75]⟩ : ByteArray), (⟨#[114, 111, 108, 108, 32, 65, 115]⟩ : ByteArray), (⟨#[115, 104, 117, 102, 102, 108, 101, 32, 114]⟩ : ByteArray), (⟨#[99, 108, 111, 99, 107, 32, 65]⟩ : ByteArray)] : List ByteArray)) := ⟨_, rfl⟩
  replace H : (some y140) = some r := by first | (rw [hy140]; with_reducible exact H) | (have H2_ := (Option.bind_some _ _).symm.trans H; rw [hy140]; with_reducible exact H2_) | (have H2_ := (Option.bind_some _ _).symm.trans H; with_reducible exact H2_) | with_reducible exact H | (rw [hy140]; exact H) | exact H
  have Ny140 := Aside0.mk hy140
  clear hy140
  obtain rfl := Option.some.inj H
  go_enter Tryd.func33, Tryd.ntmps33
  go_wp2_with (first | ((with_reducible refine gate_dst (N := 1) rfl ?_); refine Kd.R_lit Kd.string _ 9 ?hg (N := 1) ?hd (xs := ([(⟨#[115, 116, 111, 112, 32]⟩ : ByteArray), (⟨#[115, 101, 116, 32, 65, 110]⟩ : ByteArray), (⟨#[108, 111, 97, 100, 32, 65, 99]⟩ : ByteArray), (⟨#[115, 116, 111, 114, 101, 32, 65, 99]⟩ : ByteArray), (⟨#[108, 111, 97, 100, 97, 116, 32, 65, 66, 99]⟩ : ByteArray), (⟨#[115, 116, 111, 114, 101, 97, 116, 32, 65, 66, 99]⟩ : ByteArray), (⟨#[97, 100, 100, 32, 65, 66, 67]⟩ : ByteArray), (⟨#[115, 117, 98, 32, 65, 66, 67]⟩ : ByteArray), (⟨#[109, 117, 108, 32, 65, 66, 67]⟩ : ByteArray), (⟨#[100, 105, 118, 32, 65, 66, 67]⟩ : ByteArray), (⟨#[109, 111, 100, 32, 65, 66, 67]⟩ : ByteArray), (⟨#[97, 110, 100, 32, 65, 66, 67]⟩ : ByteArray), (⟨#[111, 114, 32, 65, 66, 67]⟩ : ByteArray), (⟨#[120, 111, 114, 32, 65, 66, 67]⟩ : ByteArray), (⟨#[115, 104, 108, 32, 65, 66, 67]⟩ : ByteArray), (⟨#[115, 104, 114, 32, 65, 66, 67]⟩ : ByteArray), (⟨#[108, 101, 115, 115, 32, 65, 66, 67]⟩ : ByteArray), (⟨#[101, 113, 117, 97, 108, 32, 65, 66, 67]⟩ : ByteArray), (⟨#[115, 101, 108, 101, 99, 116, 32, 65, 66, 67]⟩ : ByteArray), (⟨#[98, 114, 97, 110, 99, 104, 32, 65, 112]⟩ : ByteArray), (⟨#[106, 117, 109, 112, 32, 112]⟩ : ByteArray), (⟨#[109, 111, 118, 101, 32, 65, 109]⟩ : ByteArray), (⟨#[114, 101, 118, 101, 97, 108, 32, 66, 99, 75]⟩ : ByteArray), (⟨#[114, 111, 108, 108, 32, 65, 115]⟩ : ByteArray), (⟨#[115, 104, 117, 102, 102, 108, 101, 32, 114]⟩ : ByteArray), (⟨#[99, 108, 111, 99, 107, 32, 65]⟩ : ByteArray)] : List ByteArray)) (inner := [.string (⟨#[115, 116, 111, 112, 32]⟩ : ByteArray), .string (⟨#[115, 101, 116, 32, 65, 110]⟩ : ByteArray), .string (⟨#[108, 111, 97, 100, 32, 65, 99]⟩ : ByteArray), .string (⟨#[115, 116, 111, 114, 101, 32, 65, 99]⟩ : ByteArray), .string (⟨#[108, 111, 97, 100, 97, 116, 32, 65, 66, 99]⟩ : ByteArray), .string (⟨#[115, 116, 111, 114, 101, 97, 116, 32, 65, 66, 99]⟩ : ByteArray), .string (⟨#[97, 100, 100, 32, 65, 66, 67]⟩ : ByteArray), .string (⟨#[115, 117, 98, 32, 65, 66, 67]⟩ : ByteArray), .string (⟨#[109, 117, 108, 32, 65, 66, 67]⟩ : ByteArray), .string (⟨#[100, 105, 118, 32, 65, 66, 67]⟩ : ByteArray), .string (⟨#[109, 111, 100, 32, 65, 66, 67]⟩ : ByteArray), .string (⟨#[97, 110, 100, 32, 65, 66, 67]⟩ : ByteArray), .string (⟨#[111, 114, 32, 65, 66, 67]⟩ : ByteArray), .string (⟨#[120, 111, 114, 32, 65, 66, 67]⟩ : ByteArray), .string (⟨#[115, 104, 108, 32, 65, 66, 67]⟩ : ByteArray), .string (⟨#[115, 104, 114, 32, 65, 66, 67]⟩ : ByteArray), .string (⟨#[108, 101, 115, 115, 32, 65, 66, 67]⟩ : ByteArray), .string (⟨#[101, 113, 117, 97, 108, 32, 65, 66, 67]⟩ : ByteArray), .string (⟨#[115, 101, 108, 101, 99, 116, 32, 65, 66, 67]⟩ : ByteArray), .string (⟨#[98, 114, 97, 110, 99, 104, 32, 65, 112]⟩ : ByteArray), .string (⟨#[106, 117, 109, 112, 32, 112]⟩ : ByteArray), .string (⟨#[109, 111, 118, 101, 32, 65, 109]⟩ : ByteArray), .string (⟨#[114, 101, 118, 101, 97, 108, 32, 66, 99, 75]⟩ : ByteArray), .string (⟨#[114, 111, 108, 108, 32, 65, 115]⟩ : ByteArray), .string (⟨#[115, 104, 117, 102, 102, 108, 101, 32, 114]⟩ : ByteArray), .string (⟨#[99, 108, 111, 99, 107, 32, 65]⟩ : ByteArray)]) (ok := fun _ => True) (okp := fun _ => True) ?hr ?hp (fun _ hk => hk) trivial (Below.refl _ _) (Nat.le_refl _) (by simp) ?_; (case hd => rfl); (case hg => rfl); (case hr => first | (go_simp; done) | (go_simp; rfl)); (case hp => exact (Reps.one (show Kd.M Kd.string _ _ _ (⟨#[115, 116, 111, 112, 32]⟩ : ByteArray) [.string (⟨#[115, 116, 111, 112, 32]⟩ : ByteArray)] from rfl) (Reps.one (show Kd.M Kd.string _ _ _ (⟨#[115, 101, 116, 32, 65, 110]⟩ : ByteArray) [.string (⟨#[115, 101, 116, 32, 65, 110]⟩ : ByteArray)] from rfl) (Reps.one (show Kd.M Kd.string _ _ _ (⟨#[108, 111, 97, 100, 32, 65, 99]⟩ : ByteArray) [.string (⟨#[108, 111, 97, 100, 32, 65, 99]⟩ : ByteArray)] from rfl) (Reps.one (show Kd.M Kd.string _ _ _ (⟨#[115, 116, 111, 114, 101, 32, 65, 99]⟩ : ByteArray) [.string (⟨#[115, 116, 111, 114, 101, 32, 65, 99]⟩ : ByteArray)] from rfl) (Reps.one (show Kd.M Kd.string _ _ _ (⟨#[108, 111, 97, 100, 97, 116, 32, 65, 66, 99]⟩ : ByteArray) [.string (⟨#[108, 111, 97, 100, 97, 116, 32, 65, 66, 99]⟩ : ByteArray)] from rfl) (Reps.one (show Kd.M Kd.string _ _ _ (⟨#[115, 116, 111, 114, 101, 97, 116, 32, 65, 66, 99]⟩ : ByteArray) [.string (⟨#[115, 116, 111, 114, 101, 97, 116, 32, 65, 66, 99]⟩ : ByteArray)] from rfl) (Reps.one (show Kd.M Kd.string _ _ _ (⟨#[97, 100, 100, 32, 65, 66, 67]⟩ : ByteArray) [.string (⟨#[97, 100, 100, 32, 65, 66, 67]⟩ : ByteArray)] from rfl) (Reps.one (show Kd.M Kd.string _ _ _ (⟨#[115, 117, 98, 32, 65, 66, 67]⟩ : ByteArray) [.string (⟨#[115, 117, 98, 32, 65, 66, 67]⟩ : ByteArray)] from rfl) (Reps.one (show Kd.M Kd.string _ _ _ (⟨#[109, 117, 108, 32, 65, 66, 67]⟩ : ByteArray) [.string (⟨#[109, 117, 108, 32, 65, 66, 67]⟩ : ByteArray)] from rfl) (Reps.one (show Kd.M Kd.string _ _ _ (⟨#[100, 105, 118, 32, 65, 66, 67]⟩ : ByteArray) [.string (⟨#[100, 105, 118, 32, 65, 66, 67]⟩ : ByteArray)] from rfl) (Reps.one (show Kd.M Kd.string _ _ _ (⟨#[109, 111, 100, 32, 65, 66, 67]⟩ : ByteArray) [.string (⟨#[109, 111, 100, 32, 65, 66, 67]⟩ : ByteArray)] from rfl) (Reps.one (show Kd.M Kd.string _ _ _ (⟨#[97, 110, 100, 32, 65, 66, 67]⟩ : ByteArray) [.string (⟨#[97, 110, 100, 32, 65, 66, 67]⟩ : ByteArray)] from rfl) (Reps.one (show Kd.M Kd.string _ _ _ (⟨#[111, 114, 32, 65, 66, 67]⟩ : ByteArray) [.string (⟨#[111, 114, 32, 65, 66, 67]⟩ : ByteArray)] from rfl) (Reps.one (show Kd.M Kd.string _ _ _ (⟨#[120, 111, 114, 32, 65, 66, 67]⟩ : ByteArray) [.string (⟨#[120, 111, 114, 32, 65, 66, 67]⟩ : ByteArray)] from rfl) (Reps.one (show Kd.M Kd.string _ _ _ (⟨#[115, 104, 108, 32, 65, 66, 67]⟩ : ByteArray) [.string (⟨#[115, 104, 108, 32, 65, 66, 67]⟩ : ByteArray)] from rfl) (Reps.one (show Kd.M Kd.string _ _ _ (⟨#[115, 104, 114, 32, 65, 66, 67]⟩ : ByteArray) [.string (⟨#[115, 104, 114, 32, 65, 66, 67]⟩ : ByteArray)] from rfl) (Reps.one (show Kd.M Kd.string _ _ _ (⟨#[108, 101, 115, 115, 32, 65, 66, 67]⟩ : ByteArray) [.string (⟨#[108, 101, 115, 115, 32, 65, 66, 67]⟩ : ByteArray)] from rfl) (Reps.one (show Kd.M Kd.string _ _ _ (⟨#[101, 113, 117, 97, 108, 32, 65, 66, 67]⟩ : ByteArray) [.string (⟨#[101, 113, 117, 97, 108, 32, 65, 66, 67]⟩ : ByteArray)] from rfl) (Reps.one (show Kd.M Kd.string _ _ _ (⟨#[115, 101, 108, 101, 99, 116, 32, 65, 66, 67]⟩ : ByteArray) [.string (⟨#[115, 101, 108, 101, 99, 116, 32, 65, 66, 67]⟩ : ByteArray)] from rfl) (Reps.one (show Kd.M Kd.string _ _ _ (⟨#[98, 114, 97, 110, 99, 104, 32, 65, 112]⟩ : ByteArray) [.string (⟨#[98, 114, 97, 110, 99, 104, 32, 65, 112]⟩ : ByteArray)] from rfl) (Reps.one (show Kd.M Kd.string _ _ _ (⟨#[106, 117, 109, 112, 32, 112]⟩ : ByteArray) [.string (⟨#[106, 117, 109, 112, 32, 112]⟩ : ByteArray)] from rfl) (Reps.one (show Kd.M Kd.string _ _ _ (⟨#[109, 111, 118, 101, 32, 65, 109]⟩ : ByteArray) [.string (⟨#[109, 111, 118, 101, 32, 65, 109]⟩ : ByteArray)] from rfl) (Reps.one (show Kd.M Kd.string _ _ _ (⟨#[114, 101, 118, 101, 97, 108, 32, 66, 99, 75]⟩ : ByteArray) [.string (⟨#[114, 101, 118, 101, 97, 108, 32, 66, 99, 75]⟩ : ByteArray)] from rfl) (Reps.one (show Kd.M Kd.string _ _ _ (⟨#[114, 111, 108, 108, 32, 65, 115]⟩ : ByteArray) [.string (⟨#[114, 111, 108, 108, 32, 65, 115]⟩ : ByteArray)] from rfl) (Reps.one (show Kd.M Kd.string _ _ _ (⟨#[115, 104, 117, 102, 102, 108, 101, 32, 114]⟩ : ByteArray) [.string (⟨#[115, 104, 117, 102, 102, 108, 101, 32, 114]⟩ : ByteArray)] from rfl) (Reps.one (show Kd.M Kd.string _ _ _ (⟨#[99, 108, 111, 99, 107, 32, 65]⟩ : ByteArray) [.string (⟨#[99, 108, 111, 99, 107, 32, 65]⟩ : ByteArray)] from rfl) (Reps.none _ _)))))))))))))))))))))))))))); intro v141 w1 ho2 hb hg_ hnew_; clear hg_ hnew_; (first | rw [← Ny140.out] at ho2 | (simp only [Int.reduceToNat] at ho2; rw [← Ny140.out] at ho2)); have n0_ := Aside0.mk (Kd.R_lower ho2 (below_size (by repeat (first | (with_reducible first | exact HB.out | apply below_alloc | apply pw_below_drewN | apply below_drew1) | exact HB.out)))); have n1_ := Aside0.mk (below_step (by repeat (first | (with_reducible first | exact HB.out | apply below_alloc | apply pw_below_drewN | apply below_drew1) | exact HB.out)) hb); clear HB; have HO142 := n0_; have HB := n1_; clear n0_ n1_; clear hb ho2))
  go_ret
  exact ⟨_, by first | rfl | (simp [errW_none, errW_some] <;> rfl) | (simp [*, errW_none, errW_some] <;> rfl), by (with_reducible repeat (first | apply Kd.R_alloc | apply Kd.R_drewN | apply Kd.R_drew)); exact HO142.out, by repeat (first | (with_reducible first | exact HB.out | apply below_alloc | apply pw_below_drewN | apply below_drew1) | exact HB.out)⟩

/-! ### hoodwinkref08_Parts: function 14 -/
def hoodwinkref08_Parts.l0 : Nat → ByteArray → Int → Option (ByteArray × ByteArray)
  | 0, _, _ => none
  | k + 1, x5, x6 => if x6 < (x5.size : Int) then (if 0 ≤ x6 then (if (bt x5 x6) = 32 then (if x6 ≤ (x5.size : Int) then (if 0 ≤ (wrap64 (x6 + 1)) then (if (wrap64 (x6 + 1)) ≤ (x5.size : Int) then (some (x5.extract 0 (x6 : Int).toNat, x5.extract ((wrap64 (x6 + 1)) : Int).toNat x5.size)) else (none)) else (none)) else (none)) else (hoodwinkref08_Parts.l0 k x5 (wrap64 (x6 + 1)))) else (none)) else (some (x5, (⟨#[]⟩ : ByteArray)))
def hoodwinkref08_Parts.f (k : Nat) (a0 : Int) : Option (ByteArray × ByteArray) := (hoodwinkref08_Table.f).bind fun t143 => (if (wrap64 (a0)) ≥ (t143.length : Int) then (some ((⟨#[]⟩ : ByteArray), (⟨#[]⟩ : ByteArray))) else (if 0 ≤ a0 then (if a0 < (t143.length : Int) then (hoodwinkref08_Parts.l0 k (rdOf ByteArray.empty t143 a0) 0) else (none)) else (none)))
theorem hoodwinkref08_Parts.mono_l : ∀ k, (∀ y0 y1, LeO (hoodwinkref08_Parts.l0 k y0 y1) (hoodwinkref08_Parts.l0 (k + 1) y0 y1))
  | 0 => fun _ _ r h => by simp [hoodwinkref08_Parts.l0] at h
  | k + 1 => by
    have ih0 := hoodwinkref08_Parts.mono_l k
    · intro y0 y1
      unfold hoodwinkref08_Parts.l0
      repeat' first
      | (with_reducible exact ih0 _ _)
      | (with_reducible exact LeO.refl _)
      | (with_reducible exact LeO.none _)
      | (with_reducible refine LeO.ite ?_ ?_)
      | (with_reducible refine LeO.bind ?_ (fun _ => ?_))
      | exact ih0 _ _
      | exact LeO.none _
      | refine LeO.ite ?_ ?_
      | refine LeO.bind ?_ (fun _ => ?_)
theorem hoodwinkref08_Parts.mono : ∀ a0 k, LeO (hoodwinkref08_Parts.f k a0) (hoodwinkref08_Parts.f (k + 1) a0) := by
  intro a0 k
  have ih0 := hoodwinkref08_Parts.mono_l k
  unfold hoodwinkref08_Parts.f
  repeat' first
      | (with_reducible exact ih0 _ _)
      | (with_reducible exact LeO.refl _)
      | (with_reducible exact LeO.none _)
      | (with_reducible refine LeO.ite ?_ ?_)
      | (with_reducible refine LeO.bind ?_ (fun _ => ?_))
      | exact ih0 _ _
      | exact LeO.none _
      | refine LeO.ite ?_ ?_
      | refine LeO.bind ?_ (fun _ => ?_)
set_option maxHeartbeats 8000000 in
set_option maxRecDepth 100000 in
theorem hoodwinkref08_Parts.calls (k : Nat) (a0 : Int) (r1 : ByteArray) (r2 : ByteArray) (w : World) (h : hoodwinkref08_Parts.f k a0 = some (r1, r2)) :
    Calls Tryd.prog 14 #[.int .u8 a0] w fun e w' => e = .returned (.tuple #[.string r1, .string r2]) ∧ Below w.heap.size w w' := by
  have HB := Aside0.mk (Below.refl w.heap.size w)
  have H : ((hoodwinkref08_Table.f).bind fun t143 => (if (wrap64 (a0)) ≥ (t143.length : Int) then (some ((⟨#[]⟩ : ByteArray), (⟨#[]⟩ : ByteArray))) else (if 0 ≤ a0 then (if a0 < (t143.length : Int) then (hoodwinkref08_Parts.l0 k (rdOf ByteArray.empty t143 a0) 0) else (none)) else (none)))) = some (r1, r2) := h
  clear h
  replace H := Option.bind_eq_some_iff.mp H
  obtain ⟨t143, A20, H⟩ := H
  replace H : (if (wrap64 (a0)) ≥ (t143.length : Int) then (some ((⟨#[]⟩ : ByteArray), (⟨#[]⟩ : ByteArray))) else (if 0 ≤ a0 then (if a0 < (t143.length : Int) then (hoodwinkref08_Parts.l0 k (rdOf ByteArray.empty t143 a0) 0) else (none)) else (none))) = some (r1, r2) := H
  have A2 := Aside0.mk A20
  clear A20
  by_cases c3 : (wrap64 (a0)) ≥ (t143.length : Int)
  · rw [if_pos c3] at H
    have c3b0 : decide ((t143.length : Int) ≤ (wrap64 (a0))) = true := decide_eq_true c3
    clear c3
    simp only [Option.some.injEq, Prod.mk.injEq] at H
    obtain ⟨rfl, rfl⟩ := H
    go_enter Tryd.func14, Tryd.ntmps14
    go_wp2_with (first | (go_at_call 33; (with_reducible refine (hoodwinkref08_Table.calls  t143 _ A2.out).mono ?_); rintro e w4 ⟨v144, rfl, ho0, hb⟩; have n0_ := Aside0.mk (Kd.R_lower ho0 (below_size (by repeat (first | (with_reducible first | exact HB.out | apply below_alloc | apply pw_below_drewN | apply below_drew1) | exact HB.out)))); have n1_ := Aside0.mk (below_step (by repeat (first | (with_reducible first | exact HB.out | apply below_alloc | apply pw_below_drewN | apply below_drew1) | exact HB.out)) hb); clear HB; have HO145 := n0_; have HB := n1_; clear n0_ n1_; (try clear hb); (try clear hb2); (try clear hk); (try clear hi); (try clear ho0); obtain ⟨Ao5, co5, eo5⟩ := Kd.R_slice HO145.out; subst eo5))
    repeat (go_quiet (first | (go_at_call 33; (with_reducible refine (hoodwinkref08_Table.calls  t143 _ A2.out).mono ?_); rintro e w4 ⟨v144, rfl, ho0, hb⟩; have n0_ := Aside0.mk (Kd.R_lower ho0 (below_size (by repeat (first | (with_reducible first | exact HB.out | apply below_alloc | apply pw_below_drewN | apply below_drew1) | exact HB.out)))); have n1_ := Aside0.mk (below_step (by repeat (first | (with_reducible first | exact HB.out | apply below_alloc | apply pw_below_drewN | apply below_drew1) | exact HB.out)) hb); clear HB; have HO145 := n0_; have HB := n1_; clear n0_ n1_; (try clear hb); (try clear hb2); (try clear hk); (try clear hi); (try clear ho0); obtain ⟨Ao5, co5, eo5⟩ := Kd.R_slice HO145.out; subst eo5)); try go_wp2_with (first | (go_at_call 33; (with_reducible refine (hoodwinkref08_Table.calls  t143 _ A2.out).mono ?_); rintro e w4 ⟨v144, rfl, ho0, hb⟩; have n0_ := Aside0.mk (Kd.R_lower ho0 (below_size (by repeat (first | (with_reducible first | exact HB.out | apply below_alloc | apply pw_below_drewN | apply below_drew1) | exact HB.out)))); have n1_ := Aside0.mk (below_step (by repeat (first | (with_reducible first | exact HB.out | apply below_alloc | apply pw_below_drewN | apply below_drew1) | exact HB.out)) hb); clear HB; have HO145 := n0_; have HB := n1_; clear n0_ n1_; (try clear hb); (try clear hb2); (try clear hk); (try clear hi); (try clear ho0); obtain ⟨Ao5, co5, eo5⟩ := Kd.R_slice HO145.out; subst eo5)))
    go_ret2
    exact ⟨by first | rfl | (simp [errW_none, errW_some] <;> rfl) | (simp [*, errW_none, errW_some] <;> rfl), by repeat (first | (with_reducible first | exact HB.out | apply below_alloc | apply pw_below_drewN | apply below_drew1) | exact HB.out)⟩
  · rw [if_neg c3] at H
    have c3b0 : decide ((t143.length : Int) ≤ (wrap64 (a0))) = false := decide_eq_false c3
    clear c3
    by_cases c6 : 0 ≤ a0
    · rw [if_pos c6] at H
      have c6b0 : decide (0 ≤ a0) = true := decide_eq_true c6
      clear c6
      by_cases c7 : a0 < (t143.length : Int)
      · rw [if_pos c7] at H
        have c7b0 : decide (a0 < (t143.length : Int)) = true := decide_eq_true c7
        clear c7
        have H' := Aside0.mk H
        clear H
        go_enter Tryd.func14, Tryd.ntmps14
        go_wp2_with (first | (go_at_call 33; (with_reducible refine (hoodwinkref08_Table.calls  t143 _ A2.out).mono ?_); rintro e w8 ⟨v144, rfl, ho0, hb⟩; have n0_ := Aside0.mk (Kd.R_lower ho0 (below_size (by repeat (first | (with_reducible first | exact HB.out | apply below_alloc | apply pw_below_drewN | apply below_drew1) | exact HB.out)))); have n1_ := Aside0.mk (below_step (by repeat (first | (with_reducible first | exact HB.out | apply below_alloc | apply pw_below_drewN | apply below_drew1) | exact HB.out)) hb); clear HB; have HO145 := n0_; have HB := n1_; clear n0_ n1_; (try clear hb); (try clear hb2); (try clear hk); (try clear hi); (try clear ho0); obtain ⟨Ao9, co9, eo9⟩ := Kd.R_slice HO145.out; subst eo9; have p146 : 0 ≤ (a0 : Int) := of_decide_eq_true (by first | (with_reducible assumption) | assumption); have q146 : a0 < (t143.length : Int) := of_decide_eq_true (by first | (with_reducible assumption) | assumption); obtain ⟨ad146, e146, hx146_0⟩ := Kd.at_string (Kd.R_reads' HO145.out).2.2 a0 p146 q146; cases e146; replace p146 := eq_true p146; replace q146 := eq_true q146))
        repeat (go_quiet (first | (go_at_call 33; (with_reducible refine (hoodwinkref08_Table.calls  t143 _ A2.out).mono ?_); rintro e w8 ⟨v144, rfl, ho0, hb⟩; have n0_ := Aside0.mk (Kd.R_lower ho0 (below_size (by repeat (first | (with_reducible first | exact HB.out | apply below_alloc | apply pw_below_drewN | apply below_drew1) | exact HB.out)))); have n1_ := Aside0.mk (below_step (by repeat (first | (with_reducible first | exact HB.out | apply below_alloc | apply pw_below_drewN | apply below_drew1) | exact HB.out)) hb); clear HB; have HO145 := n0_; have HB := n1_; clear n0_ n1_; (try clear hb); (try clear hb2); (try clear hk); (try clear hi); (try clear ho0); obtain ⟨Ao9, co9, eo9⟩ := Kd.R_slice HO145.out; subst eo9; have p146 : 0 ≤ (a0 : Int) := of_decide_eq_true (by first | (with_reducible assumption) | assumption); have q146 : a0 < (t143.length : Int) := of_decide_eq_true (by first | (with_reducible assumption) | assumption); obtain ⟨ad146, e146, hx146_0⟩ := Kd.at_string (Kd.R_reads' HO145.out).2.2 a0 p146 q146; cases e146; replace p146 := eq_true p146; replace q146 := eq_true q146)); try go_wp2_with (first | (go_at_call 33; (with_reducible refine (hoodwinkref08_Table.calls  t143 _ A2.out).mono ?_); rintro e w8 ⟨v144, rfl, ho0, hb⟩; have n0_ := Aside0.mk (Kd.R_lower ho0 (below_size (by repeat (first | (with_reducible first | exact HB.out | apply below_alloc | apply pw_below_drewN | apply below_drew1) | exact HB.out)))); have n1_ := Aside0.mk (below_step (by repeat (first | (with_reducible first | exact HB.out | apply below_alloc | apply pw_below_drewN | apply below_drew1) | exact HB.out)) hb); clear HB; have HO145 := n0_; have HB := n1_; clear n0_ n1_; (try clear hb); (try clear hb2); (try clear hk); (try clear hi); (try clear ho0); obtain ⟨Ao9, co9, eo9⟩ := Kd.R_slice HO145.out; subst eo9; have p146 : 0 ≤ (a0 : Int) := of_decide_eq_true (by first | (with_reducible assumption) | assumption); have q146 : a0 < (t143.length : Int) := of_decide_eq_true (by first | (with_reducible assumption) | assumption); obtain ⟨ad146, e146, hx146_0⟩ := Kd.at_string (Kd.R_reads' HO145.out).2.2 a0 p146 q146; cases e146; replace p146 := eq_true p146; replace q146 := eq_true q146)))
        go_loopg [6] k (fun kq v6 w' => ∃ (x6_1 : Int), v6 = .int .i64 x6_1 ∧ Aside0 (hoodwinkref08_Parts.l0 kq (rdOf ByteArray.empty t143 a0) x6_1 = some (r1, r2)) ∧ Aside0 (kq ≤ k) ∧ Aside0 (Below w.heap.size w w'))
        case atStart => exact ⟨(0), (by first | rfl | (simp; done) | (simp [*]; done)), H', ⟨Nat.le_refl _⟩, ⟨by repeat (first | (with_reducible first | exact HB.out | apply below_alloc | apply pw_below_drewN | apply below_drew1) | exact HB.out)⟩⟩
        case round =>
          clear H'
          try clear c1
          try clear p1
          try clear q1
          try clear hx1
          try clear p2
          try clear c3
          try clear c3b0
          try clear c6
          try clear c6b0
          try clear p6
          try clear c7
          try clear c7b0
          try clear hx146_0
          try clear p146
          try clear q146
          obtain ⟨x6_1, rfl, HA, HK1, HB⟩ := hrel
          cases gk with
          | zero => exact absurd HA.out (by simp [hoodwinkref08_Parts.l0])
          | succ k1 =>
            have H := HA.out
            clear HA
            simp only [hoodwinkref08_Parts.l0] at H
            by_cases c10 : x6_1 < ((rdOf ByteArray.empty t143 a0).size : Int)
            · rw [if_pos c10] at H
              have c10b0 : decide (x6_1 < ((rdOf ByteArray.empty t143 a0).size : Int)) = true := decide_eq_true c10
              clear c10
              by_cases c11 : 0 ≤ x6_1
              · rw [if_pos c11] at H
                have c11b0 : decide (0 ≤ x6_1) = true := decide_eq_true c11
                clear c11
                by_cases c13 : (bt (rdOf ByteArray.empty t143 a0) x6_1) = 32
                · rw [if_pos c13] at H
                  have c13b0 : ((bt (rdOf ByteArray.empty t143 a0) x6_1) == 32) = true := beq_iff_eq.mpr c13
                  have c13b1 : ((bt (rdOf ByteArray.empty t143 a0) x6_1) != 32) = false := bne_eq_false_iff_eq.mpr c13
                  clear c13
                  have c14b0 := eq_true (of_decide_eq_true (by first | (with_reducible assumption) | assumption) : 0 ≤ x6_1)
                  by_cases c15 : x6_1 ≤ ((rdOf ByteArray.empty t143 a0).size : Int)
                  · rw [if_pos c15] at H
                    have c15b0 := eq_true c15
                    have c15b1 : decide (x6_1 ≤ ((rdOf ByteArray.empty t143 a0).size : Int)) = true := decide_eq_true c15
                    clear c15
                    obtain ⟨ji16, hji16⟩ : ∃ j_ : Int, (wrap64 (x6_1 + 1)) = j_ := ⟨_, rfl⟩
                    replace H : (if 0 ≤ (ji16) then (if (ji16) ≤ ((rdOf ByteArray.empty t143 a0).size : Int) then (some ((rdOf ByteArray.empty t143 a0).extract 0 (x6_1 : Int).toNat, (rdOf ByteArray.empty t143 a0).extract ((ji16) : Int).toNat (rdOf ByteArray.empty t143 a0).size)) else (none)) else (none)) = some (r1, r2) := by first | (rw [hji16] at H; exact H) | (simp only [hji16] at H ⊢; exact H)
                    have hji16w : (IntKind.i64.wrap (x6_1 + 1)) = ji16 := (i64_w _).trans hji16
                    by_cases c17 : 0 ≤ (ji16)
                    · rw [if_pos c17] at H
                      have c17b0 := eq_true c17
                      have c17b1 : decide (0 ≤ (ji16)) = true := decide_eq_true c17
                      clear c17
                      by_cases c18 : (ji16) ≤ ((rdOf ByteArray.empty t143 a0).size : Int)
                      · rw [if_pos c18] at H
                        have c18b0 := eq_true c18
                        have c18b1 : decide ((ji16) ≤ ((rdOf ByteArray.empty t143 a0).size : Int)) = true := decide_eq_true c18
                        clear c18
                        simp only [Option.some.injEq, Prod.mk.injEq] at H
                        obtain ⟨rfl, rfl⟩ := H
                        have p12 : 0 ≤ (x6_1 : Int) := of_decide_eq_true (by first | (with_reducible assumption) | assumption)
                        have q12 : x6_1 < ((rdOf ByteArray.empty t143 a0).size : Int) := of_decide_eq_true (by first | (with_reducible assumption) | assumption)
                        have hx12 := bt_at (rdOf ByteArray.empty t143 a0) x6_1
                        replace p12 := eq_true p12
                        replace q12 := eq_true q12
                        go_wp2
                        repeat (go_quiet (fail); try go_wp2)
                        go_ret2
                        exact ⟨by first | rfl | (simp [errW_none, errW_some] <;> rfl) | (simp only [← hji16]; first | rfl | (simp [errW_none, errW_some] <;> rfl)) | (simp [*, errW_none, errW_some] <;> rfl), by repeat (first | (with_reducible first | exact HB.out | apply below_alloc | apply pw_below_drewN | apply below_drew1) | exact HB.out)⟩
                      · rw [if_neg c18] at H
                        exact absurd H (by simp)
                    · rw [if_neg c17] at H
                      exact absurd H (by simp)
                  · rw [if_neg c15] at H
                    exact absurd H (by simp)
                · rw [if_neg c13] at H
                  have c13b0 : ((bt (rdOf ByteArray.empty t143 a0) x6_1) == 32) = false := beq_eq_false_iff_ne.mpr c13
                  have c13b1 : ((bt (rdOf ByteArray.empty t143 a0) x6_1) != 32) = true := bne_iff_ne.mpr c13
                  have H' := Aside0.mk H
                  clear H
                  have p12 : 0 ≤ (x6_1 : Int) := of_decide_eq_true (by first | (with_reducible assumption) | assumption)
                  have q12 : x6_1 < ((rdOf ByteArray.empty t143 a0).size : Int) := of_decide_eq_true (by first | (with_reducible assumption) | assumption)
                  have hx12 := bt_at (rdOf ByteArray.empty t143 a0) x6_1
                  replace p12 := eq_true p12
                  replace q12 := eq_true q12
                  go_wp2
                  repeat (go_quiet (fail); try go_wp2)
                  go_roundg k1
                  case measure => have := HK1.out; omega
                  case rel => exact ⟨(wrap64 (x6_1 + 1)), (by first | rfl | (simp; done) | (simp [*]; done)), H', ⟨by have := HK1.out; omega⟩, ⟨by repeat (first | (with_reducible first | exact HB.out | apply below_alloc | apply pw_below_drewN | apply below_drew1) | exact HB.out)⟩⟩
              · rw [if_neg c11] at H
                exact absurd H (by simp)
            · rw [if_neg c10] at H
              have c10b0 : decide (x6_1 < ((rdOf ByteArray.empty t143 a0).size : Int)) = false := decide_eq_false c10
              clear c10
              simp only [Option.some.injEq, Prod.mk.injEq] at H
              obtain ⟨rfl, rfl⟩ := H
              go_wp2
              repeat (go_quiet (fail); try go_wp2)
              go_ret2
              exact ⟨by first | rfl | (simp [errW_none, errW_some] <;> rfl) | (simp [*, errW_none, errW_some] <;> rfl), by repeat (first | (with_reducible first | exact HB.out | apply below_alloc | apply pw_below_drewN | apply below_drew1) | exact HB.out)⟩
      · rw [if_neg c7] at H
        exact absurd H (by simp)
    · rw [if_neg c6] at H
      exact absurd H (by simp)

/-! ### hoodwinkref08_has: function 32 -/
def hoodwinkref08_has.l0 : Nat → ByteArray → Int → Int → Option (Bool)
  | 0, _, _, _ => none
  | k + 1, x0, x1, x5 => if x5 < (x0.size : Int) then (if 0 ≤ x5 then (if (bt x0 x5) = x1 then (some true) else (hoodwinkref08_has.l0 k x0 x1 (wrap64 (x5 + 1)))) else (none)) else (some false)
def hoodwinkref08_has.f (k : Nat) (a0 : ByteArray) (a1 : Int) : Option (Bool) := hoodwinkref08_has.l0 k a0 a1 0
theorem hoodwinkref08_has.mono_l : ∀ k, (∀ y0 y1 y2, LeO (hoodwinkref08_has.l0 k y0 y1 y2) (hoodwinkref08_has.l0 (k + 1) y0 y1 y2))
  | 0 => fun _ _ _ r h => by simp [hoodwinkref08_has.l0] at h
  | k + 1 => by
    have ih0 := hoodwinkref08_has.mono_l k
    · intro y0 y1 y2
      unfold hoodwinkref08_has.l0
      repeat' first
      | (with_reducible exact ih0 _ _ _)
      | (with_reducible exact LeO.refl _)
      | (with_reducible exact LeO.none _)
      | (with_reducible refine LeO.ite ?_ ?_)
      | (with_reducible refine LeO.bind ?_ (fun _ => ?_))
      | exact ih0 _ _ _
      | exact LeO.none _
      | refine LeO.ite ?_ ?_
      | refine LeO.bind ?_ (fun _ => ?_)
theorem hoodwinkref08_has.mono : ∀ a0 a1 k, LeO (hoodwinkref08_has.f k a0 a1) (hoodwinkref08_has.f (k + 1) a0 a1) := by
  intro a0 a1 k
  have ih0 := hoodwinkref08_has.mono_l k
  unfold hoodwinkref08_has.f
  repeat' first
      | (with_reducible exact ih0 _ _ _)
      | (with_reducible exact LeO.refl _)
      | (with_reducible exact LeO.none _)
      | (with_reducible refine LeO.ite ?_ ?_)
      | (with_reducible refine LeO.bind ?_ (fun _ => ?_))
      | exact ih0 _ _ _
      | exact LeO.none _
      | refine LeO.ite ?_ ?_
      | refine LeO.bind ?_ (fun _ => ?_)
set_option maxHeartbeats 8000000 in
set_option maxRecDepth 100000 in
theorem hoodwinkref08_has.calls (k : Nat) (a0 : ByteArray) (a1 : Int) (r : Bool) (w : World) (h : hoodwinkref08_has.f k a0 a1 = some r) :
    Calls Tryd.prog 32 #[.string a0, .int .u8 a1] w fun e w' => e = .returned (.bool r) ∧ Drawn0 w w' := by
  have H : (hoodwinkref08_has.l0 k a0 a1 0) = some r := h
  clear h
  have H' := Aside0.mk H
  clear H
  go_enter Tryd.func32, Tryd.ntmps32
  go_wp2
  go_loopg [5] k (fun kq v5 w' => ∃ (x5_1 : Int), v5 = .int .i64 x5_1 ∧ Aside0 (hoodwinkref08_has.l0 kq a0 a1 x5_1 = some r) ∧ Aside0 (kq ≤ k) ∧ Drawn0 w w')
  case atStart => exact ⟨(0), (by first | rfl | (simp; done) | (simp [*]; done)), H', ⟨Nat.le_refl _⟩, by repeat (first | exact Drawn0.refl _ | apply Drawn0.step)⟩
  case round =>
    clear H'
    try clear p2
    obtain ⟨x5_1, rfl, HA, HK1, ⟨m1, rfl⟩⟩ := hrel
    cases gk with
    | zero => exact absurd HA.out (by simp [hoodwinkref08_has.l0])
    | succ k1 =>
      have H := HA.out
      clear HA
      simp only [hoodwinkref08_has.l0] at H
      by_cases c3 : x5_1 < (a0.size : Int)
      · rw [if_pos c3] at H
        have c3b0 : decide (x5_1 < (a0.size : Int)) = true := decide_eq_true c3
        clear c3
        by_cases c4 : 0 ≤ x5_1
        · rw [if_pos c4] at H
          have c4b0 : decide (0 ≤ x5_1) = true := decide_eq_true c4
          clear c4
          by_cases c6 : (bt a0 x5_1) = a1
          · rw [if_pos c6] at H
            have c6b0 : ((bt a0 x5_1) == a1) = true := beq_iff_eq.mpr c6
            have c6b1 : ((bt a0 x5_1) != a1) = false := bne_eq_false_iff_eq.mpr c6
            clear c6
            obtain rfl := Option.some.inj H
            have p5 : 0 ≤ (x5_1 : Int) := of_decide_eq_true (by first | (with_reducible assumption) | assumption)
            have q5 : x5_1 < (a0.size : Int) := of_decide_eq_true (by first | (with_reducible assumption) | assumption)
            have hx5 := bt_at a0 x5_1
            replace p5 := eq_true p5
            replace q5 := eq_true q5
            go_wp2
            go_ret
            exact ⟨by first | rfl | (simp; done) | (simp [*]; done), by repeat (first | exact Drawn0.refl _ | apply Drawn0.step)⟩
          · rw [if_neg c6] at H
            have c6b0 : ((bt a0 x5_1) == a1) = false := beq_eq_false_iff_ne.mpr c6
            have c6b1 : ((bt a0 x5_1) != a1) = true := bne_iff_ne.mpr c6
            have H' := Aside0.mk H
            clear H
            have p5 : 0 ≤ (x5_1 : Int) := of_decide_eq_true (by first | (with_reducible assumption) | assumption)
            have q5 : x5_1 < (a0.size : Int) := of_decide_eq_true (by first | (with_reducible assumption) | assumption)
            have hx5 := bt_at a0 x5_1
            replace p5 := eq_true p5
            replace q5 := eq_true q5
            go_wp2
            go_roundg k1
            case measure => have := HK1.out; omega
            case rel => exact ⟨(wrap64 (x5_1 + 1)), (by first | rfl | (simp; done) | (simp [*]; done)), H', ⟨by have := HK1.out; omega⟩, by repeat (first | exact Drawn0.refl _ | apply Drawn0.step)⟩
        · rw [if_neg c4] at H
          exact absurd H (by simp)
      · rw [if_neg c3] at H
        have c3b0 : decide (x5_1 < (a0.size : Int)) = false := decide_eq_false c3
        clear c3
        obtain rfl := Option.some.inj H
        go_wp2
        go_ret
        exact ⟨by first | rfl | (simp; done) | (simp [*]; done), by repeat (first | exact Drawn0.refl _ | apply Drawn0.step)⟩

/-! ### hoodwinkref08_Right: function 11 -/
mutual
def hoodwinkref08_Right.j0 : Nat → Int → Int → Int → ByteArray → Bool → Int → Int → Int → Int → Int → Int → Option (Bool)
  | 0, _, _, _, _, _, _, _, _, _, _, _ => none
  | k + 1, x1, x2, x3, x10, x57, x148000, x148001, x148002, x148003, x148004, x148005 => if x57 = true then (some false) else ((hoodwinkref08_has.f k x10 114).bind fun t157 => (if t157 = true then (if x148003 > 0 then (if x148003 < 49 then (if (wrap64 (x148004)) ≥ 0 then (if (wrap64 (x148004)) < x2 then (some (decide ((wrap64 ((wrap64 (x148004)) + (wrap64 (x148003)))) ≤ x2))) else (some false)) else (some false)) else (some false)) else (some false)) else (if x148003 > 0 then ((hoodwinkref08_has.f k x10 67).bind fun t158 => (if t158 = true then (hoodwinkref08_Right.j1 k x1 x2 x3 x10 (wrap64 (x148004)) (decide (x148003 > 7))) else (hoodwinkref08_Right.j1 k x1 x2 x3 x10 (wrap64 (x148004)) true))) else (hoodwinkref08_Right.j1 k x1 x2 x3 x10 (wrap64 (x148004)) false))))
def hoodwinkref08_Right.j1 : Nat → Int → Int → Int → ByteArray → Int → Bool → Option (Bool)
  | 0, _, _, _, _, _, _ => none
  | k + 1, x1, x2, x3, x10, x11, x101 => if x101 = true then (some false) else ((hoodwinkref08_has.f k x10 110).bind fun t159 => (if t159 = true then (some true) else ((hoodwinkref08_has.f k x10 99).bind fun t160 => (if t160 = true then (if x11 ≥ 0 then (some (decide (x11 < x2))) else (some false)) else ((hoodwinkref08_has.f k x10 112).bind fun t161 => (if t161 = true then (if x11 ≥ 0 then (some (decide (x11 ≤ x1))) else (some false)) else ((hoodwinkref08_has.f k x10 109).bind fun t162 => (if t162 = true then (if x11 ≥ 0 then (some (decide (x11 < x3))) else (some false)) else ((hoodwinkref08_has.f k x10 115).bind fun t163 => (if t163 = true then (some (decide (x11 > 0))) else (some (x11 == 0))))))))))))
end
def hoodwinkref08_Right.f (k : Nat) (a0_0 : Int) (a0_1 : Int) (a0_2 : Int) (a0_3 : Int) (a0_4 : Int) (a0_5 : Int) (a1 : Int) (a2 : Int) (a3 : Int) : Option (Bool) := (hoodwinkref08_Parts.f k a0_0).bind fun bt148 => (if bt148.1.toList = ([] : List UInt8) then (some false) else (if a0_1 > 0 then ((hoodwinkref08_has.f k bt148.2 65).bind fun t150 => (if t150 = true then (if a0_1 > 7 then (hoodwinkref08_Right.j0 k a1 a2 a3 bt148.2 true a0_0 a0_1 a0_2 a0_3 a0_4 a0_5) else (if a0_2 > 0 then ((hoodwinkref08_has.f k bt148.2 66).bind fun t151 => (if t151 = true then (if a0_2 > 7 then (hoodwinkref08_Right.j0 k a1 a2 a3 bt148.2 true a0_0 a0_1 a0_2 a0_3 a0_4 a0_5) else (if a0_5 > 0 then ((hoodwinkref08_has.f k bt148.2 75).bind fun t152 => (hoodwinkref08_Right.j0 k a1 a2 a3 bt148.2 (!t152) a0_0 a0_1 a0_2 a0_3 a0_4 a0_5)) else (hoodwinkref08_Right.j0 k a1 a2 a3 bt148.2 false a0_0 a0_1 a0_2 a0_3 a0_4 a0_5))) else (hoodwinkref08_Right.j0 k a1 a2 a3 bt148.2 true a0_0 a0_1 a0_2 a0_3 a0_4 a0_5))) else (if a0_5 > 0 then ((hoodwinkref08_has.f k bt148.2 75).bind fun t153 => (hoodwinkref08_Right.j0 k a1 a2 a3 bt148.2 (!t153) a0_0 a0_1 a0_2 a0_3 a0_4 a0_5)) else (hoodwinkref08_Right.j0 k a1 a2 a3 bt148.2 false a0_0 a0_1 a0_2 a0_3 a0_4 a0_5)))) else (hoodwinkref08_Right.j0 k a1 a2 a3 bt148.2 true a0_0 a0_1 a0_2 a0_3 a0_4 a0_5))) else (if a0_2 > 0 then ((hoodwinkref08_has.f k bt148.2 66).bind fun t154 => (if t154 = true then (if a0_2 > 7 then (hoodwinkref08_Right.j0 k a1 a2 a3 bt148.2 true a0_0 a0_1 a0_2 a0_3 a0_4 a0_5) else (if a0_5 > 0 then ((hoodwinkref08_has.f k bt148.2 75).bind fun t155 => (hoodwinkref08_Right.j0 k a1 a2 a3 bt148.2 (!t155) a0_0 a0_1 a0_2 a0_3 a0_4 a0_5)) else (hoodwinkref08_Right.j0 k a1 a2 a3 bt148.2 false a0_0 a0_1 a0_2 a0_3 a0_4 a0_5))) else (hoodwinkref08_Right.j0 k a1 a2 a3 bt148.2 true a0_0 a0_1 a0_2 a0_3 a0_4 a0_5))) else (if a0_5 > 0 then ((hoodwinkref08_has.f k bt148.2 75).bind fun t156 => (hoodwinkref08_Right.j0 k a1 a2 a3 bt148.2 (!t156) a0_0 a0_1 a0_2 a0_3 a0_4 a0_5)) else (hoodwinkref08_Right.j0 k a1 a2 a3 bt148.2 false a0_0 a0_1 a0_2 a0_3 a0_4 a0_5)))))
theorem hoodwinkref08_Right.mono_l : ∀ k, (∀ y0 y1 y2 y3 y4 y5 y6 y7 y8 y9 y10, LeO (hoodwinkref08_Right.j0 k y0 y1 y2 y3 y4 y5 y6 y7 y8 y9 y10) (hoodwinkref08_Right.j0 (k + 1) y0 y1 y2 y3 y4 y5 y6 y7 y8 y9 y10)) ∧ (∀ y0 y1 y2 y3 y4 y5, LeO (hoodwinkref08_Right.j1 k y0 y1 y2 y3 y4 y5) (hoodwinkref08_Right.j1 (k + 1) y0 y1 y2 y3 y4 y5))
  | 0 => ⟨fun _ _ _ _ _ _ _ _ _ _ _ r h => by simp [hoodwinkref08_Right.j0] at h, fun _ _ _ _ _ _ r h => by simp [hoodwinkref08_Right.j1] at h⟩
  | k + 1 => by
    obtain ⟨ih0, ih1⟩ := hoodwinkref08_Right.mono_l k
    refine ⟨?_, ?_⟩
    · intro y0 y1 y2 y3 y4 y5 y6 y7 y8 y9 y10
      unfold hoodwinkref08_Right.j0
      repeat' first
      | (with_reducible exact ih0 _ _ _ _ _ _ _ _ _ _ _)
      | (with_reducible exact ih1 _ _ _ _ _ _)
      | (with_reducible exact hoodwinkref08_Parts.mono _ _)
      | (with_reducible exact hoodwinkref08_has.mono _ _ _)
      | (with_reducible exact LeO.refl _)
      | (with_reducible exact LeO.none _)
      | (with_reducible refine LeO.ite ?_ ?_)
      | (with_reducible refine LeO.bind ?_ (fun _ => ?_))
      | exact ih0 _ _ _ _ _ _ _ _ _ _ _
      | exact ih1 _ _ _ _ _ _
      | exact hoodwinkref08_Parts.mono _ _
      | exact hoodwinkref08_has.mono _ _ _
      | exact LeO.none _
      | refine LeO.ite ?_ ?_
      | refine LeO.bind ?_ (fun _ => ?_)
    · intro y0 y1 y2 y3 y4 y5
      unfold hoodwinkref08_Right.j1
      repeat' first
      | (with_reducible exact ih0 _ _ _ _ _ _ _ _ _ _ _)
      | (with_reducible exact ih1 _ _ _ _ _ _)
      | (with_reducible exact hoodwinkref08_Parts.mono _ _)
      | (with_reducible exact hoodwinkref08_has.mono _ _ _)
      | (with_reducible exact LeO.refl _)
      | (with_reducible exact LeO.none _)
      | (with_reducible refine LeO.ite ?_ ?_)
      | (with_reducible refine LeO.bind ?_ (fun _ => ?_))
      | exact ih0 _ _ _ _ _ _ _ _ _ _ _
      | exact ih1 _ _ _ _ _ _
      | exact hoodwinkref08_Parts.mono _ _
      | exact hoodwinkref08_has.mono _ _ _
      | exact LeO.none _
      | refine LeO.ite ?_ ?_
      | refine LeO.bind ?_ (fun _ => ?_)
theorem hoodwinkref08_Right.mono : ∀ a0 a1 a2 a3 a4 a5 a6 a7 a8 k, LeO (hoodwinkref08_Right.f k a0 a1 a2 a3 a4 a5 a6 a7 a8) (hoodwinkref08_Right.f (k + 1) a0 a1 a2 a3 a4 a5 a6 a7 a8) := by
  intro a0 a1 a2 a3 a4 a5 a6 a7 a8 k
  obtain ⟨ih0, ih1⟩ := hoodwinkref08_Right.mono_l k
  unfold hoodwinkref08_Right.f
  repeat' first
      | (with_reducible exact ih0 _ _ _ _ _ _ _ _ _ _ _)
      | (with_reducible exact ih1 _ _ _ _ _ _)
      | (with_reducible exact hoodwinkref08_Parts.mono _ _)
      | (with_reducible exact hoodwinkref08_has.mono _ _ _)
      | (with_reducible exact LeO.refl _)
      | (with_reducible exact LeO.none _)
      | (with_reducible refine LeO.ite ?_ ?_)
      | (with_reducible refine LeO.bind ?_ (fun _ => ?_))
      | exact ih0 _ _ _ _ _ _ _ _ _ _ _
      | exact ih1 _ _ _ _ _ _
      | exact hoodwinkref08_Parts.mono _ _
      | exact hoodwinkref08_has.mono _ _ _
      | exact LeO.none _
      | refine LeO.ite ?_ ?_
      | refine LeO.bind ?_ (fun _ => ?_)
set_option maxHeartbeats 8000000 in
set_option maxRecDepth 100000 in
theorem hoodwinkref08_Right.calls (k : Nat) (a0_0 : Int) (a0_1 : Int) (a0_2 : Int) (a0_3 : Int) (a0_4 : Int) (a0_5 : Int) (a1 : Int) (a2 : Int) (a3 : Int) (r : Bool) (w : World) (h : hoodwinkref08_Right.f k a0_0 a0_1 a0_2 a0_3 a0_4 a0_5 a1 a2 a3 = some r) :
    Calls Tryd.prog 11 #[.agg #[.int .u8 a0_0, .int .u8 a0_1, .int .u8 a0_2, .int .u8 a0_3, .int .i32 a0_4, .int .u32 a0_5], .int .i64 a1, .int .i64 a2, .int .i64 a3] w fun e w' => e = .returned (.bool r) ∧ Below w.heap.size w w' := by
  have hu29 := Tryd.underlying29
  have HB := Aside0.mk (Below.refl w.heap.size w)
  have H : ((hoodwinkref08_Parts.f k a0_0).bind fun bt148 => (if bt148.1.toList = ([] : List UInt8) then (some false) else (if a0_1 > 0 then ((hoodwinkref08_has.f k bt148.2 65).bind fun t150 => (if t150 = true then (if a0_1 > 7 then (hoodwinkref08_Right.j0 k a1 a2 a3 bt148.2 true a0_0 a0_1 a0_2 a0_3 a0_4 a0_5) else (if a0_2 > 0 then ((hoodwinkref08_has.f k bt148.2 66).bind fun t151 => (if t151 = true then (if a0_2 > 7 then (hoodwinkref08_Right.j0 k a1 a2 a3 bt148.2 true a0_0 a0_1 a0_2 a0_3 a0_4 a0_5) else (if a0_5 > 0 then ((hoodwinkref08_has.f k bt148.2 75).bind fun t152 => (hoodwinkref08_Right.j0 k a1 a2 a3 bt148.2 (!t152) a0_0 a0_1 a0_2 a0_3 a0_4 a0_5)) else (hoodwinkref08_Right.j0 k a1 a2 a3 bt148.2 false a0_0 a0_1 a0_2 a0_3 a0_4 a0_5))) else (hoodwinkref08_Right.j0 k a1 a2 a3 bt148.2 true a0_0 a0_1 a0_2 a0_3 a0_4 a0_5))) else (if a0_5 > 0 then ((hoodwinkref08_has.f k bt148.2 75).bind fun t153 => (hoodwinkref08_Right.j0 k a1 a2 a3 bt148.2 (!t153) a0_0 a0_1 a0_2 a0_3 a0_4 a0_5)) else (hoodwinkref08_Right.j0 k a1 a2 a3 bt148.2 false a0_0 a0_1 a0_2 a0_3 a0_4 a0_5)))) else (hoodwinkref08_Right.j0 k a1 a2 a3 bt148.2 true a0_0 a0_1 a0_2 a0_3 a0_4 a0_5))) else (if a0_2 > 0 then ((hoodwinkref08_has.f k bt148.2 66).bind fun t154 => (if t154 = true then (if a0_2 > 7 then (hoodwinkref08_Right.j0 k a1 a2 a3 bt148.2 true a0_0 a0_1 a0_2 a0_3 a0_4 a0_5) else (if a0_5 > 0 then ((hoodwinkref08_has.f k bt148.2 75).bind fun t155 => (hoodwinkref08_Right.j0 k a1 a2 a3 bt148.2 (!t155) a0_0 a0_1 a0_2 a0_3 a0_4 a0_5)) else (hoodwinkref08_Right.j0 k a1 a2 a3 bt148.2 false a0_0 a0_1 a0_2 a0_3 a0_4 a0_5))) else (hoodwinkref08_Right.j0 k a1 a2 a3 bt148.2 true a0_0 a0_1 a0_2 a0_3 a0_4 a0_5))) else (if a0_5 > 0 then ((hoodwinkref08_has.f k bt148.2 75).bind fun t156 => (hoodwinkref08_Right.j0 k a1 a2 a3 bt148.2 (!t156) a0_0 a0_1 a0_2 a0_3 a0_4 a0_5)) else (hoodwinkref08_Right.j0 k a1 a2 a3 bt148.2 false a0_0 a0_1 a0_2 a0_3 a0_4 a0_5)))))) = some r := h
  clear h
  replace H := Option.bind_eq_some_iff.mp H
  obtain ⟨⟨t148, t149⟩, A50, H⟩ := H
  replace H : (if t148.toList = ([] : List UInt8) then (some false) else (if a0_1 > 0 then ((hoodwinkref08_has.f k t149 65).bind fun t150 => (if t150 = true then (if a0_1 > 7 then (hoodwinkref08_Right.j0 k a1 a2 a3 t149 true a0_0 a0_1 a0_2 a0_3 a0_4 a0_5) else (if a0_2 > 0 then ((hoodwinkref08_has.f k t149 66).bind fun t151 => (if t151 = true then (if a0_2 > 7 then (hoodwinkref08_Right.j0 k a1 a2 a3 t149 true a0_0 a0_1 a0_2 a0_3 a0_4 a0_5) else (if a0_5 > 0 then ((hoodwinkref08_has.f k t149 75).bind fun t152 => (hoodwinkref08_Right.j0 k a1 a2 a3 t149 (!t152) a0_0 a0_1 a0_2 a0_3 a0_4 a0_5)) else (hoodwinkref08_Right.j0 k a1 a2 a3 t149 false a0_0 a0_1 a0_2 a0_3 a0_4 a0_5))) else (hoodwinkref08_Right.j0 k a1 a2 a3 t149 true a0_0 a0_1 a0_2 a0_3 a0_4 a0_5))) else (if a0_5 > 0 then ((hoodwinkref08_has.f k t149 75).bind fun t153 => (hoodwinkref08_Right.j0 k a1 a2 a3 t149 (!t153) a0_0 a0_1 a0_2 a0_3 a0_4 a0_5)) else (hoodwinkref08_Right.j0 k a1 a2 a3 t149 false a0_0 a0_1 a0_2 a0_3 a0_4 a0_5)))) else (hoodwinkref08_Right.j0 k a1 a2 a3 t149 true a0_0 a0_1 a0_2 a0_3 a0_4 a0_5))) else (if a0_2 > 0 then ((hoodwinkref08_has.f k t149 66).bind fun t154 => (if t154 = true then (if a0_2 > 7 then (hoodwinkref08_Right.j0 k a1 a2 a3 t149 true a0_0 a0_1 a0_2 a0_3 a0_4 a0_5) else (if a0_5 > 0 then ((hoodwinkref08_has.f k t149 75).bind fun t155 => (hoodwinkref08_Right.j0 k a1 a2 a3 t149 (!t155) a0_0 a0_1 a0_2 a0_3 a0_4 a0_5)) else (hoodwinkref08_Right.j0 k a1 a2 a3 t149 false a0_0 a0_1 a0_2 a0_3 a0_4 a0_5))) else (hoodwinkref08_Right.j0 k a1 a2 a3 t149 true a0_0 a0_1 a0_2 a0_3 a0_4 a0_5))) else (if a0_5 > 0 then ((hoodwinkref08_has.f k t149 75).bind fun t156 => (hoodwinkref08_Right.j0 k a1 a2 a3 t149 (!t156) a0_0 a0_1 a0_2 a0_3 a0_4 a0_5)) else (hoodwinkref08_Right.j0 k a1 a2 a3 t149 false a0_0 a0_1 a0_2 a0_3 a0_4 a0_5))))) = some r := H
  have A5 := Aside0.mk A50
  clear A50
  by_cases c6 : t148.toList = ([] : List UInt8)
  · rw [if_pos c6] at H
    have c6b0 : (t148.toList == ([] : List UInt8)) = true := beq_iff_eq.mpr c6
    have c6b1 : (t148.toList != ([] : List UInt8)) = false := bne_eq_false_iff_eq.mpr c6
    clear c6
    obtain rfl := Option.some.inj H
    go_enter Tryd.func11, Tryd.ntmps11
    go_wp2_with (first | ((with_reducible refine gate_dst (N := 4) rfl ?_); refine box_event ?hg (N := 4) ?hd (cs := #[.int .u8 a0_0, .int .u8 a0_1, .int .u8 a0_2, .int .u8 a0_3, .int .i32 a0_4, .int .u32 a0_5]) (t := 29) ?hr ?_; (case hd => rfl); (case hg => rfl); (case hr => first | (go_simp; done) | (go_simp; rfl)); intro gb147 hg w7 hbox hb; have n0_ := Aside0.mk (below_step (by repeat (first | (with_reducible first | exact HB.out | apply below_alloc | apply pw_below_drewN | apply below_drew1) | exact HB.out)) hb); have n1_ := Aside0.mk (hbox); have n2_ := Aside0.mk ((by rw [hg]; exact (below_size (by repeat (first | (with_reducible first | exact HB.out | apply below_alloc | apply pw_below_drewN | apply below_drew1) | exact HB.out))) : w.heap.size ≤ gb147)); have n3_ := Aside0.mk ((by rw [hg]; exact (below_size (by repeat (first | (with_reducible first | exact HB.out | apply below_alloc | apply pw_below_drewN | apply below_drew1) | exact HB.out))) : w.heap.size ≤ gb147)); clear HB; have HB := n0_; have BK147 := n1_; have GW147 := n2_; have GE147 := n3_; clear n0_ n1_ n2_ n3_; clear hb hbox hg; have hcz8_0 : w7.cell? ⟨gb147, 0, none⟩ = some (.int .u8 a0_0) := (blk_cell BK147.out 0).trans rfl; have hcz8_1 : w7.cell? ⟨gb147, 1, none⟩ = some (.int .u8 a0_1) := (blk_cell BK147.out 1).trans rfl; have hcz8_2 : w7.cell? ⟨gb147, 2, none⟩ = some (.int .u8 a0_2) := (blk_cell BK147.out 2).trans rfl; have hcz8_3 : w7.cell? ⟨gb147, 3, none⟩ = some (.int .u8 a0_3) := (blk_cell BK147.out 3).trans rfl; have hcz8_4 : w7.cell? ⟨gb147, 4, none⟩ = some (.int .i32 a0_4) := (blk_cell BK147.out 4).trans rfl; have hcz8_5 : w7.cell? ⟨gb147, 5, none⟩ = some (.int .u32 a0_5) := (blk_cell BK147.out 5).trans rfl; have hfz8_0 := blk_frozen BK147.out 0; have hfz8_1 := blk_frozen BK147.out 1; have hfz8_2 := blk_frozen BK147.out 2; have hfz8_3 := blk_frozen BK147.out 3; have hfz8_4 := blk_frozen BK147.out 4; have hfz8_5 := blk_frozen BK147.out 5) | ((with_reducible refine gate_callee (f := 14) rfl ?_); refine goesL_ (some 15) rfl rfl Tryd.func14 (by kernel_rfl) rfl #[.int .u8 a0_0] rfl (by (try simp only [List.map_toArray, List.map_cons, List.map_nil]); first | done | rfl | (simp only [List.length_drop, List.length_take]; rfl)) ?_; (with_reducible refine (hoodwinkref08_Parts.calls k a0_0 t148 t149 _ A5.out).mono ?_); rintro e w9 ⟨rfl, hb⟩; refine ⟨_, rfl, ?_⟩; have n0_ := Aside0.mk (blk_below (g := gb147) (o := .cells #[.int .u8 a0_0, .int .u8 a0_1, .int .u8 a0_2, .int .u8 a0_3, .int .i32 a0_4, .int .u32 a0_5] 29 (0, 0)) (by (with_reducible repeat (first | refine blk_drewN ?_ _ | refine blk_drew ?_ | refine blk_alloc ?_ _)); exact BK147.out) hb); have n1_ := Aside0.mk (below_step (by repeat (first | (with_reducible first | exact HB.out | apply below_alloc | apply pw_below_drewN | apply below_drew1 | refine below_set ?_ GE147.out) | exact HB.out)) hb); clear BK147; clear HB; have BK147 := n0_; have HB := n1_; clear n0_ n1_; (try clear hb); (try clear hb2); (try clear hk); (try clear hi)))
    go_ret
    exact ⟨by first | rfl | (simp [errW_none, errW_some] <;> rfl) | (simp [*, errW_none, errW_some] <;> rfl), by repeat (first | (with_reducible first | exact HB.out | apply below_alloc | apply pw_below_drewN | apply below_drew1 | refine below_set ?_ GE147.out) | exact HB.out)⟩
  · rw [if_neg c6] at H
    have c6b0 : (t148.toList == ([] : List UInt8)) = false := beq_eq_false_iff_ne.mpr c6
    have c6b1 : (t148.toList != ([] : List UInt8)) = true := bne_iff_ne.mpr c6
    have HC10 := Aside0.mk H
    clear H
    go_enter Tryd.func11, Tryd.ntmps11
    go_upto_region 4 with (first | ((with_reducible refine gate_dst (N := 4) rfl ?_); refine box_event ?hg (N := 4) ?hd (cs := #[.int .u8 a0_0, .int .u8 a0_1, .int .u8 a0_2, .int .u8 a0_3, .int .i32 a0_4, .int .u32 a0_5]) (t := 29) ?hr ?_; (case hd => rfl); (case hg => rfl); (case hr => first | (go_simp; done) | (go_simp; rfl)); intro gb147 hg w11 hbox hb; have n0_ := Aside0.mk (below_step (by repeat (first | (with_reducible first | exact HB.out | apply below_alloc | apply pw_below_drewN | apply below_drew1) | exact HB.out)) hb); have n1_ := Aside0.mk (hbox); have n2_ := Aside0.mk ((by rw [hg]; exact (below_size (by repeat (first | (with_reducible first | exact HB.out | apply below_alloc | apply pw_below_drewN | apply below_drew1) | exact HB.out))) : w.heap.size ≤ gb147)); have n3_ := Aside0.mk ((by rw [hg]; exact (below_size (by repeat (first | (with_reducible first | exact HB.out | apply below_alloc | apply pw_below_drewN | apply below_drew1) | exact HB.out))) : w.heap.size ≤ gb147)); clear HB; have HB := n0_; have BK147 := n1_; have GW147 := n2_; have GE147 := n3_; clear n0_ n1_ n2_ n3_; clear hb hbox hg; have hcz12_0 : w11.cell? ⟨gb147, 0, none⟩ = some (.int .u8 a0_0) := (blk_cell BK147.out 0).trans rfl; have hcz12_1 : w11.cell? ⟨gb147, 1, none⟩ = some (.int .u8 a0_1) := (blk_cell BK147.out 1).trans rfl; have hcz12_2 : w11.cell? ⟨gb147, 2, none⟩ = some (.int .u8 a0_2) := (blk_cell BK147.out 2).trans rfl; have hcz12_3 : w11.cell? ⟨gb147, 3, none⟩ = some (.int .u8 a0_3) := (blk_cell BK147.out 3).trans rfl; have hcz12_4 : w11.cell? ⟨gb147, 4, none⟩ = some (.int .i32 a0_4) := (blk_cell BK147.out 4).trans rfl; have hcz12_5 : w11.cell? ⟨gb147, 5, none⟩ = some (.int .u32 a0_5) := (blk_cell BK147.out 5).trans rfl; have hfz12_0 := blk_frozen BK147.out 0; have hfz12_1 := blk_frozen BK147.out 1; have hfz12_2 := blk_frozen BK147.out 2; have hfz12_3 := blk_frozen BK147.out 3; have hfz12_4 := blk_frozen BK147.out 4; have hfz12_5 := blk_frozen BK147.out 5) | ((with_reducible refine gate_callee (f := 14) rfl ?_); refine goesL_ (some 15) rfl rfl Tryd.func14 (by kernel_rfl) rfl #[.int .u8 a0_0] rfl (by (try simp only [List.map_toArray, List.map_cons, List.map_nil]); first | done | rfl | (simp only [List.length_drop, List.length_take]; rfl)) ?_; (with_reducible refine (hoodwinkref08_Parts.calls k a0_0 t148 t149 _ A5.out).mono ?_); rintro e w13 ⟨rfl, hb⟩; refine ⟨_, rfl, ?_⟩; have n0_ := Aside0.mk (blk_below (g := gb147) (o := .cells #[.int .u8 a0_0, .int .u8 a0_1, .int .u8 a0_2, .int .u8 a0_3, .int .i32 a0_4, .int .u32 a0_5] 29 (0, 0)) (by (with_reducible repeat (first | refine blk_drewN ?_ _ | refine blk_drew ?_ | refine blk_alloc ?_ _)); exact BK147.out) hb); have n1_ := Aside0.mk (below_step (by repeat (first | (with_reducible first | exact HB.out | apply below_alloc | apply pw_below_drewN | apply below_drew1 | refine below_set ?_ GE147.out) | exact HB.out)) hb); clear BK147; clear HB; have BK147 := n0_; have HB := n1_; clear n0_ n1_; (try clear hb); (try clear hb2); (try clear hk); (try clear hi)))
    (try simp only [Act.put, List.setIfInBounds_toArray, List.set_cons_zero, List.set_cons_succ])
    go_cut [57] (fun v57 wc => ∃ (kq : Nat) (x57_9 : Bool), v57 = .bool x57_9 ∧ Aside0 (hoodwinkref08_Right.j0 kq a1 a2 a3 t149 x57_9 a0_0 a0_1 a0_2 a0_3 a0_4 a0_5 = some r) ∧ Aside0 (kq ≤ k) ∧ Aside0 (wc.heap[gb147]? = some (.cells #[.int .u8 a0_0, .int .u8 a0_1, .int .u8 a0_2, .int .u8 a0_3, .int .i32 a0_4, .int .u32 a0_5] 29 (0, 0))) ∧ Aside0 (Below w.heap.size w wc))
    case first =>
      have H := HC10.out
      clear HC10
      by_cases c14 : a0_1 > 0
      · rw [if_pos c14] at H
        have c14b0 : decide (0 < a0_1) = true := decide_eq_true c14
        clear c14
        (first | rw [c14b0] | (simp only [i64_w, i32_w]; rw [c14b0]) | skip)
        replace H := Option.bind_eq_some_iff.mp H
        obtain ⟨t150, A150, H⟩ := H
        replace H : (if t150 = true then (if a0_1 > 7 then (hoodwinkref08_Right.j0 k a1 a2 a3 t149 true a0_0 a0_1 a0_2 a0_3 a0_4 a0_5) else (if a0_2 > 0 then ((hoodwinkref08_has.f k t149 66).bind fun t151 => (if t151 = true then (if a0_2 > 7 then (hoodwinkref08_Right.j0 k a1 a2 a3 t149 true a0_0 a0_1 a0_2 a0_3 a0_4 a0_5) else (if a0_5 > 0 then ((hoodwinkref08_has.f k t149 75).bind fun t152 => (hoodwinkref08_Right.j0 k a1 a2 a3 t149 (!t152) a0_0 a0_1 a0_2 a0_3 a0_4 a0_5)) else (hoodwinkref08_Right.j0 k a1 a2 a3 t149 false a0_0 a0_1 a0_2 a0_3 a0_4 a0_5))) else (hoodwinkref08_Right.j0 k a1 a2 a3 t149 true a0_0 a0_1 a0_2 a0_3 a0_4 a0_5))) else (if a0_5 > 0 then ((hoodwinkref08_has.f k t149 75).bind fun t153 => (hoodwinkref08_Right.j0 k a1 a2 a3 t149 (!t153) a0_0 a0_1 a0_2 a0_3 a0_4 a0_5)) else (hoodwinkref08_Right.j0 k a1 a2 a3 t149 false a0_0 a0_1 a0_2 a0_3 a0_4 a0_5)))) else (hoodwinkref08_Right.j0 k a1 a2 a3 t149 true a0_0 a0_1 a0_2 a0_3 a0_4 a0_5)) = some r := H
        have A15 := Aside0.mk A150
        clear A150
        by_cases c16 : t150 = true
        · subst c16
          have H1 : (if a0_1 > 7 then (hoodwinkref08_Right.j0 k a1 a2 a3 t149 true a0_0 a0_1 a0_2 a0_3 a0_4 a0_5) else (if a0_2 > 0 then ((hoodwinkref08_has.f k t149 66).bind fun t151 => (if t151 = true then (if a0_2 > 7 then (hoodwinkref08_Right.j0 k a1 a2 a3 t149 true a0_0 a0_1 a0_2 a0_3 a0_4 a0_5) else (if a0_5 > 0 then ((hoodwinkref08_has.f k t149 75).bind fun t152 => (hoodwinkref08_Right.j0 k a1 a2 a3 t149 (!t152) a0_0 a0_1 a0_2 a0_3 a0_4 a0_5)) else (hoodwinkref08_Right.j0 k a1 a2 a3 t149 false a0_0 a0_1 a0_2 a0_3 a0_4 a0_5))) else (hoodwinkref08_Right.j0 k a1 a2 a3 t149 true a0_0 a0_1 a0_2 a0_3 a0_4 a0_5))) else (if a0_5 > 0 then ((hoodwinkref08_has.f k t149 75).bind fun t153 => (hoodwinkref08_Right.j0 k a1 a2 a3 t149 (!t153) a0_0 a0_1 a0_2 a0_3 a0_4 a0_5)) else (hoodwinkref08_Right.j0 k a1 a2 a3 t149 false a0_0 a0_1 a0_2 a0_3 a0_4 a0_5)))) = some r := by rw [if_pos rfl] at H; exact H
          clear H
          have H := H1
          clear H1
          by_cases c17 : a0_1 > 7
          · rw [if_pos c17] at H
            have c17b0 : decide (7 < a0_1) = true := decide_eq_true c17
            clear c17
            have H' := Aside0.mk H
            clear H
            have hcz18_0 : w13.cell? ⟨gb147, 0, none⟩ = some (.int .u8 a0_0) := (blk_cell BK147.out 0).trans rfl
            have hcz18_1 : w13.cell? ⟨gb147, 1, none⟩ = some (.int .u8 a0_1) := (blk_cell BK147.out 1).trans rfl
            have hcz18_2 : w13.cell? ⟨gb147, 2, none⟩ = some (.int .u8 a0_2) := (blk_cell BK147.out 2).trans rfl
            have hcz18_3 : w13.cell? ⟨gb147, 3, none⟩ = some (.int .u8 a0_3) := (blk_cell BK147.out 3).trans rfl
            have hcz18_4 : w13.cell? ⟨gb147, 4, none⟩ = some (.int .i32 a0_4) := (blk_cell BK147.out 4).trans rfl
            have hcz18_5 : w13.cell? ⟨gb147, 5, none⟩ = some (.int .u32 a0_5) := (blk_cell BK147.out 5).trans rfl
            have hfz18_0 := blk_frozen BK147.out 0
            have hfz18_1 := blk_frozen BK147.out 1
            have hfz18_2 := blk_frozen BK147.out 2
            have hfz18_3 := blk_frozen BK147.out 3
            have hfz18_4 := blk_frozen BK147.out 4
            have hfz18_5 := blk_frozen BK147.out 5
            go_wp2_with (first | (go_at_call 32; (with_reducible refine (hoodwinkref08_has.calls k t149 65 true _ A15.out).mono ?_); rintro e w' ⟨rfl, ⟨nd, rfl⟩⟩))
            go_meet
            case rel => exact ⟨_, (true), (by first | rfl | (simp; done) | (simp [*]; done)), H', ⟨by first | omega | exact Nat.le_refl _⟩, ⟨by (with_reducible repeat (first | refine blk_drewN ?_ _ | refine blk_drew ?_ | refine blk_alloc ?_ _)); exact BK147.out⟩, ⟨by repeat (first | (with_reducible first | exact HB.out | apply below_alloc | apply pw_below_drewN | apply below_drew1 | refine below_set ?_ GE147.out) | exact HB.out)⟩⟩
          · rw [if_neg c17] at H
            have c17b0 : decide (7 < a0_1) = false := decide_eq_false c17
            clear c17
            by_cases c19 : a0_2 > 0
            · rw [if_pos c19] at H
              have c19b0 : decide (0 < a0_2) = true := decide_eq_true c19
              clear c19
              replace H := Option.bind_eq_some_iff.mp H
              obtain ⟨t151, A200, H⟩ := H
              replace H : (if t151 = true then (if a0_2 > 7 then (hoodwinkref08_Right.j0 k a1 a2 a3 t149 true a0_0 a0_1 a0_2 a0_3 a0_4 a0_5) else (if a0_5 > 0 then ((hoodwinkref08_has.f k t149 75).bind fun t152 => (hoodwinkref08_Right.j0 k a1 a2 a3 t149 (!t152) a0_0 a0_1 a0_2 a0_3 a0_4 a0_5)) else (hoodwinkref08_Right.j0 k a1 a2 a3 t149 false a0_0 a0_1 a0_2 a0_3 a0_4 a0_5))) else (hoodwinkref08_Right.j0 k a1 a2 a3 t149 true a0_0 a0_1 a0_2 a0_3 a0_4 a0_5)) = some r := H
              have A20 := Aside0.mk A200
              clear A200
              by_cases c21 : t151 = true
              · subst c21
                have H1 : (if a0_2 > 7 then (hoodwinkref08_Right.j0 k a1 a2 a3 t149 true a0_0 a0_1 a0_2 a0_3 a0_4 a0_5) else (if a0_5 > 0 then ((hoodwinkref08_has.f k t149 75).bind fun t152 => (hoodwinkref08_Right.j0 k a1 a2 a3 t149 (!t152) a0_0 a0_1 a0_2 a0_3 a0_4 a0_5)) else (hoodwinkref08_Right.j0 k a1 a2 a3 t149 false a0_0 a0_1 a0_2 a0_3 a0_4 a0_5))) = some r := by rw [if_pos rfl] at H; exact H
                clear H
                have H := H1
                clear H1
                by_cases c22 : a0_2 > 7
                · rw [if_pos c22] at H
                  have c22b0 : decide (7 < a0_2) = true := decide_eq_true c22
                  clear c22
                  have H' := Aside0.mk H
                  clear H
                  have hcz23_0 : w13.cell? ⟨gb147, 0, none⟩ = some (.int .u8 a0_0) := (blk_cell BK147.out 0).trans rfl
                  have hcz23_1 : w13.cell? ⟨gb147, 1, none⟩ = some (.int .u8 a0_1) := (blk_cell BK147.out 1).trans rfl
                  have hcz23_2 : w13.cell? ⟨gb147, 2, none⟩ = some (.int .u8 a0_2) := (blk_cell BK147.out 2).trans rfl
                  have hcz23_3 : w13.cell? ⟨gb147, 3, none⟩ = some (.int .u8 a0_3) := (blk_cell BK147.out 3).trans rfl
                  have hcz23_4 : w13.cell? ⟨gb147, 4, none⟩ = some (.int .i32 a0_4) := (blk_cell BK147.out 4).trans rfl
                  have hcz23_5 : w13.cell? ⟨gb147, 5, none⟩ = some (.int .u32 a0_5) := (blk_cell BK147.out 5).trans rfl
                  have hfz23_0 := blk_frozen BK147.out 0
                  have hfz23_1 := blk_frozen BK147.out 1
                  have hfz23_2 := blk_frozen BK147.out 2
                  have hfz23_3 := blk_frozen BK147.out 3
                  have hfz23_4 := blk_frozen BK147.out 4
                  have hfz23_5 := blk_frozen BK147.out 5
                  go_wp2_with (first | (go_at_call 32; (with_reducible refine (hoodwinkref08_has.calls k t149 65 true _ A15.out).mono ?_); rintro e w' ⟨rfl, ⟨nd, rfl⟩⟩) | (go_at_call 32; (with_reducible refine (hoodwinkref08_has.calls k t149 66 true _ A20.out).mono ?_); rintro e w' ⟨rfl, ⟨nd, rfl⟩⟩))
                  go_meet
                  case rel => exact ⟨_, (true), (by first | rfl | (simp; done) | (simp [*]; done)), H', ⟨by first | omega | exact Nat.le_refl _⟩, ⟨by (with_reducible repeat (first | refine blk_drewN ?_ _ | refine blk_drew ?_ | refine blk_alloc ?_ _)); exact BK147.out⟩, ⟨by repeat (first | (with_reducible first | exact HB.out | apply below_alloc | apply pw_below_drewN | apply below_drew1 | refine below_set ?_ GE147.out) | exact HB.out)⟩⟩
                · rw [if_neg c22] at H
                  have c22b0 : decide (7 < a0_2) = false := decide_eq_false c22
                  clear c22
                  by_cases c24 : a0_5 > 0
                  · rw [if_pos c24] at H
                    have c24b0 : decide (0 < a0_5) = true := decide_eq_true c24
                    clear c24
                    replace H := Option.bind_eq_some_iff.mp H
                    obtain ⟨t152, A250, H⟩ := H
                    replace H : (hoodwinkref08_Right.j0 k a1 a2 a3 t149 (!t152) a0_0 a0_1 a0_2 a0_3 a0_4 a0_5) = some r := H
                    have A25 := Aside0.mk A250
                    clear A250
                    have H' := Aside0.mk H
                    clear H
                    have hcz26_0 : w13.cell? ⟨gb147, 0, none⟩ = some (.int .u8 a0_0) := (blk_cell BK147.out 0).trans rfl
                    have hcz26_1 : w13.cell? ⟨gb147, 1, none⟩ = some (.int .u8 a0_1) := (blk_cell BK147.out 1).trans rfl
                    have hcz26_2 : w13.cell? ⟨gb147, 2, none⟩ = some (.int .u8 a0_2) := (blk_cell BK147.out 2).trans rfl
                    have hcz26_3 : w13.cell? ⟨gb147, 3, none⟩ = some (.int .u8 a0_3) := (blk_cell BK147.out 3).trans rfl
                    have hcz26_4 : w13.cell? ⟨gb147, 4, none⟩ = some (.int .i32 a0_4) := (blk_cell BK147.out 4).trans rfl
                    have hcz26_5 : w13.cell? ⟨gb147, 5, none⟩ = some (.int .u32 a0_5) := (blk_cell BK147.out 5).trans rfl
                    have hfz26_0 := blk_frozen BK147.out 0
                    have hfz26_1 := blk_frozen BK147.out 1
                    have hfz26_2 := blk_frozen BK147.out 2
                    have hfz26_3 := blk_frozen BK147.out 3
                    have hfz26_4 := blk_frozen BK147.out 4
                    have hfz26_5 := blk_frozen BK147.out 5
                    go_wp2_with (first | (go_at_call 32; (with_reducible refine (hoodwinkref08_has.calls k t149 65 true _ A15.out).mono ?_); rintro e w' ⟨rfl, ⟨nd, rfl⟩⟩) | (go_at_call 32; (with_reducible refine (hoodwinkref08_has.calls k t149 66 true _ A20.out).mono ?_); rintro e w' ⟨rfl, ⟨nd, rfl⟩⟩) | (go_at_call 32; (with_reducible refine (hoodwinkref08_has.calls k t149 75 t152 _ A25.out).mono ?_); rintro e w' ⟨rfl, ⟨nd, rfl⟩⟩))
                    go_meet
                    case rel => exact ⟨_, (!t152), (by first | rfl | (simp; done) | (simp [*]; done)), H', ⟨by first | omega | exact Nat.le_refl _⟩, ⟨by (with_reducible repeat (first | refine blk_drewN ?_ _ | refine blk_drew ?_ | refine blk_alloc ?_ _)); exact BK147.out⟩, ⟨by repeat (first | (with_reducible first | exact HB.out | apply below_alloc | apply pw_below_drewN | apply below_drew1 | refine below_set ?_ GE147.out) | exact HB.out)⟩⟩
                  · rw [if_neg c24] at H
                    have c24b0 : decide (0 < a0_5) = false := decide_eq_false c24
                    clear c24
                    have H' := Aside0.mk H
                    clear H
                    have hcz27_0 : w13.cell? ⟨gb147, 0, none⟩ = some (.int .u8 a0_0) := (blk_cell BK147.out 0).trans rfl
                    have hcz27_1 : w13.cell? ⟨gb147, 1, none⟩ = some (.int .u8 a0_1) := (blk_cell BK147.out 1).trans rfl
                    have hcz27_2 : w13.cell? ⟨gb147, 2, none⟩ = some (.int .u8 a0_2) := (blk_cell BK147.out 2).trans rfl
                    have hcz27_3 : w13.cell? ⟨gb147, 3, none⟩ = some (.int .u8 a0_3) := (blk_cell BK147.out 3).trans rfl
                    have hcz27_4 : w13.cell? ⟨gb147, 4, none⟩ = some (.int .i32 a0_4) := (blk_cell BK147.out 4).trans rfl
                    have hcz27_5 : w13.cell? ⟨gb147, 5, none⟩ = some (.int .u32 a0_5) := (blk_cell BK147.out 5).trans rfl
                    have hfz27_0 := blk_frozen BK147.out 0
                    have hfz27_1 := blk_frozen BK147.out 1
                    have hfz27_2 := blk_frozen BK147.out 2
                    have hfz27_3 := blk_frozen BK147.out 3
                    have hfz27_4 := blk_frozen BK147.out 4
                    have hfz27_5 := blk_frozen BK147.out 5
                    go_wp2_with (first | (go_at_call 32; (with_reducible refine (hoodwinkref08_has.calls k t149 65 true _ A15.out).mono ?_); rintro e w' ⟨rfl, ⟨nd, rfl⟩⟩) | (go_at_call 32; (with_reducible refine (hoodwinkref08_has.calls k t149 66 true _ A20.out).mono ?_); rintro e w' ⟨rfl, ⟨nd, rfl⟩⟩))
                    go_meet
                    case rel => exact ⟨_, (false), (by first | rfl | (simp; done) | (simp [*]; done)), H', ⟨by first | omega | exact Nat.le_refl _⟩, ⟨by (with_reducible repeat (first | refine blk_drewN ?_ _ | refine blk_drew ?_ | refine blk_alloc ?_ _)); exact BK147.out⟩, ⟨by repeat (first | (with_reducible first | exact HB.out | apply below_alloc | apply pw_below_drewN | apply below_drew1 | refine below_set ?_ GE147.out) | exact HB.out)⟩⟩
              · replace c21 := Bool.eq_false_iff.mpr c21
                subst c21
                have H1 : (hoodwinkref08_Right.j0 k a1 a2 a3 t149 true a0_0 a0_1 a0_2 a0_3 a0_4 a0_5) = some r := by rw [if_neg (show ¬ (false = true) by decide)] at H; exact H
                clear H
                have H := H1
                clear H1
                have H' := Aside0.mk H
                clear H
                have hcz28_0 : w13.cell? ⟨gb147, 0, none⟩ = some (.int .u8 a0_0) := (blk_cell BK147.out 0).trans rfl
                have hcz28_1 : w13.cell? ⟨gb147, 1, none⟩ = some (.int .u8 a0_1) := (blk_cell BK147.out 1).trans rfl
                have hcz28_2 : w13.cell? ⟨gb147, 2, none⟩ = some (.int .u8 a0_2) := (blk_cell BK147.out 2).trans rfl
                have hcz28_3 : w13.cell? ⟨gb147, 3, none⟩ = some (.int .u8 a0_3) := (blk_cell BK147.out 3).trans rfl
                have hcz28_4 : w13.cell? ⟨gb147, 4, none⟩ = some (.int .i32 a0_4) := (blk_cell BK147.out 4).trans rfl
                have hcz28_5 : w13.cell? ⟨gb147, 5, none⟩ = some (.int .u32 a0_5) := (blk_cell BK147.out 5).trans rfl
                have hfz28_0 := blk_frozen BK147.out 0
                have hfz28_1 := blk_frozen BK147.out 1
                have hfz28_2 := blk_frozen BK147.out 2
                have hfz28_3 := blk_frozen BK147.out 3
                have hfz28_4 := blk_frozen BK147.out 4
                have hfz28_5 := blk_frozen BK147.out 5
                go_wp2_with (first | (go_at_call 32; (with_reducible refine (hoodwinkref08_has.calls k t149 65 true _ A15.out).mono ?_); rintro e w' ⟨rfl, ⟨nd, rfl⟩⟩) | (go_at_call 32; (with_reducible refine (hoodwinkref08_has.calls k t149 66 false _ A20.out).mono ?_); rintro e w' ⟨rfl, ⟨nd, rfl⟩⟩))
                go_meet
                case rel => exact ⟨_, (true), (by first | rfl | (simp; done) | (simp [*]; done)), H', ⟨by first | omega | exact Nat.le_refl _⟩, ⟨by (with_reducible repeat (first | refine blk_drewN ?_ _ | refine blk_drew ?_ | refine blk_alloc ?_ _)); exact BK147.out⟩, ⟨by repeat (first | (with_reducible first | exact HB.out | apply below_alloc | apply pw_below_drewN | apply below_drew1 | refine below_set ?_ GE147.out) | exact HB.out)⟩⟩
            · rw [if_neg c19] at H
              have c19b0 : decide (0 < a0_2) = false := decide_eq_false c19
              clear c19
              by_cases c29 : a0_5 > 0
              · rw [if_pos c29] at H
                have c29b0 : decide (0 < a0_5) = true := decide_eq_true c29
                clear c29
                replace H := Option.bind_eq_some_iff.mp H
                obtain ⟨t153, A300, H⟩ := H
                replace H : (hoodwinkref08_Right.j0 k a1 a2 a3 t149 (!t153) a0_0 a0_1 a0_2 a0_3 a0_4 a0_5) = some r := H
                have A30 := Aside0.mk A300
                clear A300
                have H' := Aside0.mk H
                clear H
                have hcz31_0 : w13.cell? ⟨gb147, 0, none⟩ = some (.int .u8 a0_0) := (blk_cell BK147.out 0).trans rfl
                have hcz31_1 : w13.cell? ⟨gb147, 1, none⟩ = some (.int .u8 a0_1) := (blk_cell BK147.out 1).trans rfl
                have hcz31_2 : w13.cell? ⟨gb147, 2, none⟩ = some (.int .u8 a0_2) := (blk_cell BK147.out 2).trans rfl
                have hcz31_3 : w13.cell? ⟨gb147, 3, none⟩ = some (.int .u8 a0_3) := (blk_cell BK147.out 3).trans rfl
                have hcz31_4 : w13.cell? ⟨gb147, 4, none⟩ = some (.int .i32 a0_4) := (blk_cell BK147.out 4).trans rfl
                have hcz31_5 : w13.cell? ⟨gb147, 5, none⟩ = some (.int .u32 a0_5) := (blk_cell BK147.out 5).trans rfl
                have hfz31_0 := blk_frozen BK147.out 0
                have hfz31_1 := blk_frozen BK147.out 1
                have hfz31_2 := blk_frozen BK147.out 2
                have hfz31_3 := blk_frozen BK147.out 3
                have hfz31_4 := blk_frozen BK147.out 4
                have hfz31_5 := blk_frozen BK147.out 5
                go_wp2_with (first | (go_at_call 32; (with_reducible refine (hoodwinkref08_has.calls k t149 65 true _ A15.out).mono ?_); rintro e w' ⟨rfl, ⟨nd, rfl⟩⟩) | (go_at_call 32; (with_reducible refine (hoodwinkref08_has.calls k t149 75 t153 _ A30.out).mono ?_); rintro e w' ⟨rfl, ⟨nd, rfl⟩⟩))
                go_meet
                case rel => exact ⟨_, (!t153), (by first | rfl | (simp; done) | (simp [*]; done)), H', ⟨by first | omega | exact Nat.le_refl _⟩, ⟨by (with_reducible repeat (first | refine blk_drewN ?_ _ | refine blk_drew ?_ | refine blk_alloc ?_ _)); exact BK147.out⟩, ⟨by repeat (first | (with_reducible first | exact HB.out | apply below_alloc | apply pw_below_drewN | apply below_drew1 | refine below_set ?_ GE147.out) | exact HB.out)⟩⟩
              · rw [if_neg c29] at H
                have c29b0 : decide (0 < a0_5) = false := decide_eq_false c29
                clear c29
                have H' := Aside0.mk H
                clear H
                have hcz32_0 : w13.cell? ⟨gb147, 0, none⟩ = some (.int .u8 a0_0) := (blk_cell BK147.out 0).trans rfl
                have hcz32_1 : w13.cell? ⟨gb147, 1, none⟩ = some (.int .u8 a0_1) := (blk_cell BK147.out 1).trans rfl
                have hcz32_2 : w13.cell? ⟨gb147, 2, none⟩ = some (.int .u8 a0_2) := (blk_cell BK147.out 2).trans rfl
                have hcz32_3 : w13.cell? ⟨gb147, 3, none⟩ = some (.int .u8 a0_3) := (blk_cell BK147.out 3).trans rfl
                have hcz32_4 : w13.cell? ⟨gb147, 4, none⟩ = some (.int .i32 a0_4) := (blk_cell BK147.out 4).trans rfl
                have hcz32_5 : w13.cell? ⟨gb147, 5, none⟩ = some (.int .u32 a0_5) := (blk_cell BK147.out 5).trans rfl
                have hfz32_0 := blk_frozen BK147.out 0
                have hfz32_1 := blk_frozen BK147.out 1
                have hfz32_2 := blk_frozen BK147.out 2
                have hfz32_3 := blk_frozen BK147.out 3
                have hfz32_4 := blk_frozen BK147.out 4
                have hfz32_5 := blk_frozen BK147.out 5
                go_wp2_with (first | (go_at_call 32; (with_reducible refine (hoodwinkref08_has.calls k t149 65 true _ A15.out).mono ?_); rintro e w' ⟨rfl, ⟨nd, rfl⟩⟩))
                go_meet
                case rel => exact ⟨_, (false), (by first | rfl | (simp; done) | (simp [*]; done)), H', ⟨by first | omega | exact Nat.le_refl _⟩, ⟨by (with_reducible repeat (first | refine blk_drewN ?_ _ | refine blk_drew ?_ | refine blk_alloc ?_ _)); exact BK147.out⟩, ⟨by repeat (first | (with_reducible first | exact HB.out | apply below_alloc | apply pw_below_drewN | apply below_drew1 | refine below_set ?_ GE147.out) | exact HB.out)⟩⟩
        · replace c16 := Bool.eq_false_iff.mpr c16
          subst c16
          have H1 : (hoodwinkref08_Right.j0 k a1 a2 a3 t149 true a0_0 a0_1 a0_2 a0_3 a0_4 a0_5) = some r := by rw [if_neg (show ¬ (false = true) by decide)] at H; exact H
          clear H
          have H := H1
          clear H1
          have H' := Aside0.mk H
          clear H
          have hcz33_0 : w13.cell? ⟨gb147, 0, none⟩ = some (.int .u8 a0_0) := (blk_cell BK147.out 0).trans rfl
          have hcz33_1 : w13.cell? ⟨gb147, 1, none⟩ = some (.int .u8 a0_1) := (blk_cell BK147.out 1).trans rfl
          have hcz33_2 : w13.cell? ⟨gb147, 2, none⟩ = some (.int .u8 a0_2) := (blk_cell BK147.out 2).trans rfl
          have hcz33_3 : w13.cell? ⟨gb147, 3, none⟩ = some (.int .u8 a0_3) := (blk_cell BK147.out 3).trans rfl
          have hcz33_4 : w13.cell? ⟨gb147, 4, none⟩ = some (.int .i32 a0_4) := (blk_cell BK147.out 4).trans rfl
          have hcz33_5 : w13.cell? ⟨gb147, 5, none⟩ = some (.int .u32 a0_5) := (blk_cell BK147.out 5).trans rfl
          have hfz33_0 := blk_frozen BK147.out 0
          have hfz33_1 := blk_frozen BK147.out 1
          have hfz33_2 := blk_frozen BK147.out 2
          have hfz33_3 := blk_frozen BK147.out 3
          have hfz33_4 := blk_frozen BK147.out 4
          have hfz33_5 := blk_frozen BK147.out 5
          go_wp2_with (first | (go_at_call 32; (with_reducible refine (hoodwinkref08_has.calls k t149 65 false _ A15.out).mono ?_); rintro e w' ⟨rfl, ⟨nd, rfl⟩⟩))
          go_meet
          case rel => exact ⟨_, (true), (by first | rfl | (simp; done) | (simp [*]; done)), H', ⟨by first | omega | exact Nat.le_refl _⟩, ⟨by (with_reducible repeat (first | refine blk_drewN ?_ _ | refine blk_drew ?_ | refine blk_alloc ?_ _)); exact BK147.out⟩, ⟨by repeat (first | (with_reducible first | exact HB.out | apply below_alloc | apply pw_below_drewN | apply below_drew1 | refine below_set ?_ GE147.out) | exact HB.out)⟩⟩
      · rw [if_neg c14] at H
        have c14b0 : decide (0 < a0_1) = false := decide_eq_false c14
        clear c14
        (first | rw [c14b0] | (simp only [i64_w, i32_w]; rw [c14b0]) | skip)
        by_cases c34 : a0_2 > 0
        · rw [if_pos c34] at H
          have c34b0 : decide (0 < a0_2) = true := decide_eq_true c34
          clear c34
          replace H := Option.bind_eq_some_iff.mp H
          obtain ⟨t154, A350, H⟩ := H
          replace H : (if t154 = true then (if a0_2 > 7 then (hoodwinkref08_Right.j0 k a1 a2 a3 t149 true a0_0 a0_1 a0_2 a0_3 a0_4 a0_5) else (if a0_5 > 0 then ((hoodwinkref08_has.f k t149 75).bind fun t155 => (hoodwinkref08_Right.j0 k a1 a2 a3 t149 (!t155) a0_0 a0_1 a0_2 a0_3 a0_4 a0_5)) else (hoodwinkref08_Right.j0 k a1 a2 a3 t149 false a0_0 a0_1 a0_2 a0_3 a0_4 a0_5))) else (hoodwinkref08_Right.j0 k a1 a2 a3 t149 true a0_0 a0_1 a0_2 a0_3 a0_4 a0_5)) = some r := H
          have A35 := Aside0.mk A350
          clear A350
          by_cases c36 : t154 = true
          · subst c36
            have H1 : (if a0_2 > 7 then (hoodwinkref08_Right.j0 k a1 a2 a3 t149 true a0_0 a0_1 a0_2 a0_3 a0_4 a0_5) else (if a0_5 > 0 then ((hoodwinkref08_has.f k t149 75).bind fun t155 => (hoodwinkref08_Right.j0 k a1 a2 a3 t149 (!t155) a0_0 a0_1 a0_2 a0_3 a0_4 a0_5)) else (hoodwinkref08_Right.j0 k a1 a2 a3 t149 false a0_0 a0_1 a0_2 a0_3 a0_4 a0_5))) = some r := by rw [if_pos rfl] at H; exact H
            clear H
            have H := H1
            clear H1
            by_cases c37 : a0_2 > 7
            · rw [if_pos c37] at H
              have c37b0 : decide (7 < a0_2) = true := decide_eq_true c37
              clear c37
              have H' := Aside0.mk H
              clear H
              have hcz38_0 : w13.cell? ⟨gb147, 0, none⟩ = some (.int .u8 a0_0) := (blk_cell BK147.out 0).trans rfl
              have hcz38_1 : w13.cell? ⟨gb147, 1, none⟩ = some (.int .u8 a0_1) := (blk_cell BK147.out 1).trans rfl
              have hcz38_2 : w13.cell? ⟨gb147, 2, none⟩ = some (.int .u8 a0_2) := (blk_cell BK147.out 2).trans rfl
              have hcz38_3 : w13.cell? ⟨gb147, 3, none⟩ = some (.int .u8 a0_3) := (blk_cell BK147.out 3).trans rfl
              have hcz38_4 : w13.cell? ⟨gb147, 4, none⟩ = some (.int .i32 a0_4) := (blk_cell BK147.out 4).trans rfl
              have hcz38_5 : w13.cell? ⟨gb147, 5, none⟩ = some (.int .u32 a0_5) := (blk_cell BK147.out 5).trans rfl
              have hfz38_0 := blk_frozen BK147.out 0
              have hfz38_1 := blk_frozen BK147.out 1
              have hfz38_2 := blk_frozen BK147.out 2
              have hfz38_3 := blk_frozen BK147.out 3
              have hfz38_4 := blk_frozen BK147.out 4
              have hfz38_5 := blk_frozen BK147.out 5
              go_wp2_with (first | (go_at_call 32; (with_reducible refine (hoodwinkref08_has.calls k t149 66 true _ A35.out).mono ?_); rintro e w' ⟨rfl, ⟨nd, rfl⟩⟩))
              go_meet
              case rel => exact ⟨_, (true), (by first | rfl | (simp; done) | (simp [*]; done)), H', ⟨by first | omega | exact Nat.le_refl _⟩, ⟨by (with_reducible repeat (first | refine blk_drewN ?_ _ | refine blk_drew ?_ | refine blk_alloc ?_ _)); exact BK147.out⟩, ⟨by repeat (first | (with_reducible first | exact HB.out | apply below_alloc | apply pw_below_drewN | apply below_drew1 | refine below_set ?_ GE147.out) | exact HB.out)⟩⟩
            · rw [if_neg c37] at H
              have c37b0 : decide (7 < a0_2) = false := decide_eq_false c37
              clear c37
              by_cases c39 : a0_5 > 0
              · rw [if_pos c39] at H
                have c39b0 : decide (0 < a0_5) = true := decide_eq_true c39
                clear c39
                replace H := Option.bind_eq_some_iff.mp H
                obtain ⟨t155, A400, H⟩ := H
                replace H : (hoodwinkref08_Right.j0 k a1 a2 a3 t149 (!t155) a0_0 a0_1 a0_2 a0_3 a0_4 a0_5) = some r := H
                have A40 := Aside0.mk A400
                clear A400
                have H' := Aside0.mk H
                clear H
                have hcz41_0 : w13.cell? ⟨gb147, 0, none⟩ = some (.int .u8 a0_0) := (blk_cell BK147.out 0).trans rfl
                have hcz41_1 : w13.cell? ⟨gb147, 1, none⟩ = some (.int .u8 a0_1) := (blk_cell BK147.out 1).trans rfl
                have hcz41_2 : w13.cell? ⟨gb147, 2, none⟩ = some (.int .u8 a0_2) := (blk_cell BK147.out 2).trans rfl
                have hcz41_3 : w13.cell? ⟨gb147, 3, none⟩ = some (.int .u8 a0_3) := (blk_cell BK147.out 3).trans rfl
                have hcz41_4 : w13.cell? ⟨gb147, 4, none⟩ = some (.int .i32 a0_4) := (blk_cell BK147.out 4).trans rfl
                have hcz41_5 : w13.cell? ⟨gb147, 5, none⟩ = some (.int .u32 a0_5) := (blk_cell BK147.out 5).trans rfl
                have hfz41_0 := blk_frozen BK147.out 0
                have hfz41_1 := blk_frozen BK147.out 1
                have hfz41_2 := blk_frozen BK147.out 2
                have hfz41_3 := blk_frozen BK147.out 3
                have hfz41_4 := blk_frozen BK147.out 4
                have hfz41_5 := blk_frozen BK147.out 5
                go_wp2_with (first | (go_at_call 32; (with_reducible refine (hoodwinkref08_has.calls k t149 66 true _ A35.out).mono ?_); rintro e w' ⟨rfl, ⟨nd, rfl⟩⟩) | (go_at_call 32; (with_reducible refine (hoodwinkref08_has.calls k t149 75 t155 _ A40.out).mono ?_); rintro e w' ⟨rfl, ⟨nd, rfl⟩⟩))
                go_meet
                case rel => exact ⟨_, (!t155), (by first | rfl | (simp; done) | (simp [*]; done)), H', ⟨by first | omega | exact Nat.le_refl _⟩, ⟨by (with_reducible repeat (first | refine blk_drewN ?_ _ | refine blk_drew ?_ | refine blk_alloc ?_ _)); exact BK147.out⟩, ⟨by repeat (first | (with_reducible first | exact HB.out | apply below_alloc | apply pw_below_drewN | apply below_drew1 | refine below_set ?_ GE147.out) | exact HB.out)⟩⟩
              · rw [if_neg c39] at H
                have c39b0 : decide (0 < a0_5) = false := decide_eq_false c39
                clear c39
                have H' := Aside0.mk H
                clear H
                have hcz42_0 : w13.cell? ⟨gb147, 0, none⟩ = some (.int .u8 a0_0) := (blk_cell BK147.out 0).trans rfl
                have hcz42_1 : w13.cell? ⟨gb147, 1, none⟩ = some (.int .u8 a0_1) := (blk_cell BK147.out 1).trans rfl
                have hcz42_2 : w13.cell? ⟨gb147, 2, none⟩ = some (.int .u8 a0_2) := (blk_cell BK147.out 2).trans rfl
                have hcz42_3 : w13.cell? ⟨gb147, 3, none⟩ = some (.int .u8 a0_3) := (blk_cell BK147.out 3).trans rfl
                have hcz42_4 : w13.cell? ⟨gb147, 4, none⟩ = some (.int .i32 a0_4) := (blk_cell BK147.out 4).trans rfl
                have hcz42_5 : w13.cell? ⟨gb147, 5, none⟩ = some (.int .u32 a0_5) := (blk_cell BK147.out 5).trans rfl
                have hfz42_0 := blk_frozen BK147.out 0
                have hfz42_1 := blk_frozen BK147.out 1
                have hfz42_2 := blk_frozen BK147.out 2
                have hfz42_3 := blk_frozen BK147.out 3
                have hfz42_4 := blk_frozen BK147.out 4
                have hfz42_5 := blk_frozen BK147.out 5
                go_wp2_with (first | (go_at_call 32; (with_reducible refine (hoodwinkref08_has.calls k t149 66 true _ A35.out).mono ?_); rintro e w' ⟨rfl, ⟨nd, rfl⟩⟩))
                go_meet
                case rel => exact ⟨_, (false), (by first | rfl | (simp; done) | (simp [*]; done)), H', ⟨by first | omega | exact Nat.le_refl _⟩, ⟨by (with_reducible repeat (first | refine blk_drewN ?_ _ | refine blk_drew ?_ | refine blk_alloc ?_ _)); exact BK147.out⟩, ⟨by repeat (first | (with_reducible first | exact HB.out | apply below_alloc | apply pw_below_drewN | apply below_drew1 | refine below_set ?_ GE147.out) | exact HB.out)⟩⟩
          · replace c36 := Bool.eq_false_iff.mpr c36
            subst c36
            have H1 : (hoodwinkref08_Right.j0 k a1 a2 a3 t149 true a0_0 a0_1 a0_2 a0_3 a0_4 a0_5) = some r := by rw [if_neg (show ¬ (false = true) by decide)] at H; exact H
            clear H
            have H := H1
            clear H1
            have H' := Aside0.mk H
            clear H
            have hcz43_0 : w13.cell? ⟨gb147, 0, none⟩ = some (.int .u8 a0_0) := (blk_cell BK147.out 0).trans rfl
            have hcz43_1 : w13.cell? ⟨gb147, 1, none⟩ = some (.int .u8 a0_1) := (blk_cell BK147.out 1).trans rfl
            have hcz43_2 : w13.cell? ⟨gb147, 2, none⟩ = some (.int .u8 a0_2) := (blk_cell BK147.out 2).trans rfl
            have hcz43_3 : w13.cell? ⟨gb147, 3, none⟩ = some (.int .u8 a0_3) := (blk_cell BK147.out 3).trans rfl
            have hcz43_4 : w13.cell? ⟨gb147, 4, none⟩ = some (.int .i32 a0_4) := (blk_cell BK147.out 4).trans rfl
            have hcz43_5 : w13.cell? ⟨gb147, 5, none⟩ = some (.int .u32 a0_5) := (blk_cell BK147.out 5).trans rfl
            have hfz43_0 := blk_frozen BK147.out 0
            have hfz43_1 := blk_frozen BK147.out 1
            have hfz43_2 := blk_frozen BK147.out 2
            have hfz43_3 := blk_frozen BK147.out 3
            have hfz43_4 := blk_frozen BK147.out 4
            have hfz43_5 := blk_frozen BK147.out 5
            go_wp2_with (first | (go_at_call 32; (with_reducible refine (hoodwinkref08_has.calls k t149 66 false _ A35.out).mono ?_); rintro e w' ⟨rfl, ⟨nd, rfl⟩⟩))
            go_meet
            case rel => exact ⟨_, (true), (by first | rfl | (simp; done) | (simp [*]; done)), H', ⟨by first | omega | exact Nat.le_refl _⟩, ⟨by (with_reducible repeat (first | refine blk_drewN ?_ _ | refine blk_drew ?_ | refine blk_alloc ?_ _)); exact BK147.out⟩, ⟨by repeat (first | (with_reducible first | exact HB.out | apply below_alloc | apply pw_below_drewN | apply below_drew1 | refine below_set ?_ GE147.out) | exact HB.out)⟩⟩
        · rw [if_neg c34] at H
          have c34b0 : decide (0 < a0_2) = false := decide_eq_false c34
          clear c34
          by_cases c44 : a0_5 > 0
          · rw [if_pos c44] at H
            have c44b0 : decide (0 < a0_5) = true := decide_eq_true c44
            clear c44
            replace H := Option.bind_eq_some_iff.mp H
            obtain ⟨t156, A450, H⟩ := H
            replace H : (hoodwinkref08_Right.j0 k a1 a2 a3 t149 (!t156) a0_0 a0_1 a0_2 a0_3 a0_4 a0_5) = some r := H
            have A45 := Aside0.mk A450
            clear A450
            have H' := Aside0.mk H
            clear H
            have hcz46_0 : w13.cell? ⟨gb147, 0, none⟩ = some (.int .u8 a0_0) := (blk_cell BK147.out 0).trans rfl
            have hcz46_1 : w13.cell? ⟨gb147, 1, none⟩ = some (.int .u8 a0_1) := (blk_cell BK147.out 1).trans rfl
            have hcz46_2 : w13.cell? ⟨gb147, 2, none⟩ = some (.int .u8 a0_2) := (blk_cell BK147.out 2).trans rfl
            have hcz46_3 : w13.cell? ⟨gb147, 3, none⟩ = some (.int .u8 a0_3) := (blk_cell BK147.out 3).trans rfl
            have hcz46_4 : w13.cell? ⟨gb147, 4, none⟩ = some (.int .i32 a0_4) := (blk_cell BK147.out 4).trans rfl
            have hcz46_5 : w13.cell? ⟨gb147, 5, none⟩ = some (.int .u32 a0_5) := (blk_cell BK147.out 5).trans rfl
            have hfz46_0 := blk_frozen BK147.out 0
            have hfz46_1 := blk_frozen BK147.out 1
            have hfz46_2 := blk_frozen BK147.out 2
            have hfz46_3 := blk_frozen BK147.out 3
            have hfz46_4 := blk_frozen BK147.out 4
            have hfz46_5 := blk_frozen BK147.out 5
            go_wp2_with (first | (go_at_call 32; (with_reducible refine (hoodwinkref08_has.calls k t149 75 t156 _ A45.out).mono ?_); rintro e w' ⟨rfl, ⟨nd, rfl⟩⟩))
            go_meet
            case rel => exact ⟨_, (!t156), (by first | rfl | (simp; done) | (simp [*]; done)), H', ⟨by first | omega | exact Nat.le_refl _⟩, ⟨by (with_reducible repeat (first | refine blk_drewN ?_ _ | refine blk_drew ?_ | refine blk_alloc ?_ _)); exact BK147.out⟩, ⟨by repeat (first | (with_reducible first | exact HB.out | apply below_alloc | apply pw_below_drewN | apply below_drew1 | refine below_set ?_ GE147.out) | exact HB.out)⟩⟩
          · rw [if_neg c44] at H
            have c44b0 : decide (0 < a0_5) = false := decide_eq_false c44
            clear c44
            have H' := Aside0.mk H
            clear H
            have hcz47_0 : w13.cell? ⟨gb147, 0, none⟩ = some (.int .u8 a0_0) := (blk_cell BK147.out 0).trans rfl
            have hcz47_1 : w13.cell? ⟨gb147, 1, none⟩ = some (.int .u8 a0_1) := (blk_cell BK147.out 1).trans rfl
            have hcz47_2 : w13.cell? ⟨gb147, 2, none⟩ = some (.int .u8 a0_2) := (blk_cell BK147.out 2).trans rfl
            have hcz47_3 : w13.cell? ⟨gb147, 3, none⟩ = some (.int .u8 a0_3) := (blk_cell BK147.out 3).trans rfl
            have hcz47_4 : w13.cell? ⟨gb147, 4, none⟩ = some (.int .i32 a0_4) := (blk_cell BK147.out 4).trans rfl
            have hcz47_5 : w13.cell? ⟨gb147, 5, none⟩ = some (.int .u32 a0_5) := (blk_cell BK147.out 5).trans rfl
            have hfz47_0 := blk_frozen BK147.out 0
            have hfz47_1 := blk_frozen BK147.out 1
            have hfz47_2 := blk_frozen BK147.out 2
            have hfz47_3 := blk_frozen BK147.out 3
            have hfz47_4 := blk_frozen BK147.out 4
            have hfz47_5 := blk_frozen BK147.out 5
            go_wp2
            go_meet
            case rel => exact ⟨_, (false), (by first | rfl | (simp; done) | (simp [*]; done)), H', ⟨by first | omega | exact Nat.le_refl _⟩, ⟨by (with_reducible repeat (first | refine blk_drewN ?_ _ | refine blk_drew ?_ | refine blk_alloc ?_ _)); exact BK147.out⟩, ⟨by repeat (first | (with_reducible first | exact HB.out | apply below_alloc | apply pw_below_drewN | apply below_drew1 | refine below_set ?_ GE147.out) | exact HB.out)⟩⟩
    case rest =>
      clear HC10
      try clear c1
      try clear c2
      try clear p2
      try clear c3
      try clear c4
      try clear c6
      try clear c6b0
      try clear c6b1
      try clear c11
      try clear c14
      try clear c14b0
      try clear c16
      try clear c17
      try clear c17b0
      try clear c19
      try clear c19b0
      try clear c21
      try clear c22
      try clear c22b0
      try clear c24
      try clear c24b0
      try clear c29
      try clear c29b0
      try clear c34
      try clear c34b0
      try clear c36
      try clear c37
      try clear c37b0
      try clear c39
      try clear c39b0
      try clear c44
      try clear c44b0
      try clear hcz12_0
      try clear hcz12_1
      try clear hcz12_2
      try clear hcz12_3
      try clear hcz12_4
      try clear hcz12_5
      try clear hcz18_0
      try clear hcz18_1
      try clear hcz18_2
      try clear hcz18_3
      try clear hcz18_4
      try clear hcz18_5
      try clear hcz23_0
      try clear hcz23_1
      try clear hcz23_2
      try clear hcz23_3
      try clear hcz23_4
      try clear hcz23_5
      try clear hcz26_0
      try clear hcz26_1
      try clear hcz26_2
      try clear hcz26_3
      try clear hcz26_4
      try clear hcz26_5
      try clear hcz27_0
      try clear hcz27_1
      try clear hcz27_2
      try clear hcz27_3
      try clear hcz27_4
      try clear hcz27_5
      try clear hcz28_0
      try clear hcz28_1
      try clear hcz28_2
      try clear hcz28_3
      try clear hcz28_4
      try clear hcz28_5
      try clear hcz31_0
      try clear hcz31_1
      try clear hcz31_2
      try clear hcz31_3
      try clear hcz31_4
      try clear hcz31_5
      try clear hcz32_0
      try clear hcz32_1
      try clear hcz32_2
      try clear hcz32_3
      try clear hcz32_4
      try clear hcz32_5
      try clear hcz33_0
      try clear hcz33_1
      try clear hcz33_2
      try clear hcz33_3
      try clear hcz33_4
      try clear hcz33_5
      try clear hcz38_0
      try clear hcz38_1
      try clear hcz38_2
      try clear hcz38_3
      try clear hcz38_4
      try clear hcz38_5
      try clear hcz41_0
      try clear hcz41_1
      try clear hcz41_2
      try clear hcz41_3
      try clear hcz41_4
      try clear hcz41_5
      try clear hcz42_0
      try clear hcz42_1
      try clear hcz42_2
      try clear hcz42_3
      try clear hcz42_4
      try clear hcz42_5
      try clear hcz43_0
      try clear hcz43_1
      try clear hcz43_2
      try clear hcz43_3
      try clear hcz43_4
      try clear hcz43_5
      try clear hcz46_0
      try clear hcz46_1
      try clear hcz46_2
      try clear hcz46_3
      try clear hcz46_4
      try clear hcz46_5
      try clear hcz47_0
      try clear hcz47_1
      try clear hcz47_2
      try clear hcz47_3
      try clear hcz47_4
      try clear hcz47_5
      try clear hcz8_0
      try clear hcz8_1
      try clear hcz8_2
      try clear hcz8_3
      try clear hcz8_4
      try clear hcz8_5
      try clear hfz12_0
      try clear hfz12_1
      try clear hfz12_2
      try clear hfz12_3
      try clear hfz12_4
      try clear hfz12_5
      try clear hfz18_0
      try clear hfz18_1
      try clear hfz18_2
      try clear hfz18_3
      try clear hfz18_4
      try clear hfz18_5
      try clear hfz23_0
      try clear hfz23_1
      try clear hfz23_2
      try clear hfz23_3
      try clear hfz23_4
      try clear hfz23_5
      try clear hfz26_0
      try clear hfz26_1
      try clear hfz26_2
      try clear hfz26_3
      try clear hfz26_4
      try clear hfz26_5
      try clear hfz27_0
      try clear hfz27_1
      try clear hfz27_2
      try clear hfz27_3
      try clear hfz27_4
      try clear hfz27_5
      try clear hfz28_0
      try clear hfz28_1
      try clear hfz28_2
      try clear hfz28_3
      try clear hfz28_4
      try clear hfz28_5
      try clear hfz31_0
      try clear hfz31_1
      try clear hfz31_2
      try clear hfz31_3
      try clear hfz31_4
      try clear hfz31_5
      try clear hfz32_0
      try clear hfz32_1
      try clear hfz32_2
      try clear hfz32_3
      try clear hfz32_4
      try clear hfz32_5
      try clear hfz33_0
      try clear hfz33_1
      try clear hfz33_2
      try clear hfz33_3
      try clear hfz33_4
      try clear hfz33_5
      try clear hfz38_0
      try clear hfz38_1
      try clear hfz38_2
      try clear hfz38_3
      try clear hfz38_4
      try clear hfz38_5
      try clear hfz41_0
      try clear hfz41_1
      try clear hfz41_2
      try clear hfz41_3
      try clear hfz41_4
      try clear hfz41_5
      try clear hfz42_0
      try clear hfz42_1
      try clear hfz42_2
      try clear hfz42_3
      try clear hfz42_4
      try clear hfz42_5
      try clear hfz43_0
      try clear hfz43_1
      try clear hfz43_2
      try clear hfz43_3
      try clear hfz43_4
      try clear hfz43_5
      try clear hfz46_0
      try clear hfz46_1
      try clear hfz46_2
      try clear hfz46_3
      try clear hfz46_4
      try clear hfz46_5
      try clear hfz47_0
      try clear hfz47_1
      try clear hfz47_2
      try clear hfz47_3
      try clear hfz47_4
      try clear hfz47_5
      try clear hfz8_0
      try clear hfz8_1
      try clear hfz8_2
      try clear hfz8_3
      try clear hfz8_4
      try clear hfz8_5
      obtain ⟨kq, x57_9, rfl, HA, HJ9, BK147, HB⟩ := hcut
      cases kq with
      | zero => exact absurd HA.out (by simp [hoodwinkref08_Right.j0])
      | succ kj9 =>
        have H := HA.out
        clear HA
        simp only [hoodwinkref08_Right.j0] at H
        by_cases c48 : x57_9 = true
        · subst c48
          have H1 : (some false) = some r := by rw [if_pos rfl] at H; exact H
          clear H
          have H := H1
          clear H1
          obtain rfl := Option.some.inj H
          go_wp2
          go_ret
          exact ⟨by first | rfl | (simp [errW_none, errW_some] <;> rfl) | (simp [*, errW_none, errW_some] <;> rfl), by repeat (first | (with_reducible first | exact HB.out | apply below_alloc | apply pw_below_drewN | apply below_drew1 | refine below_set ?_ GE147.out) | exact HB.out)⟩
        · replace c48 := Bool.eq_false_iff.mpr c48
          subst c48
          have H1 : ((hoodwinkref08_has.f kj9 t149 114).bind fun t157 => (if t157 = true then (if a0_3 > 0 then (if a0_3 < 49 then (if (wrap64 (a0_4)) ≥ 0 then (if (wrap64 (a0_4)) < a2 then (some (decide ((wrap64 ((wrap64 (a0_4)) + (wrap64 (a0_3)))) ≤ a2))) else (some false)) else (some false)) else (some false)) else (some false)) else (if a0_3 > 0 then ((hoodwinkref08_has.f kj9 t149 67).bind fun t158 => (if t158 = true then (hoodwinkref08_Right.j1 kj9 a1 a2 a3 t149 (wrap64 (a0_4)) (decide (a0_3 > 7))) else (hoodwinkref08_Right.j1 kj9 a1 a2 a3 t149 (wrap64 (a0_4)) true))) else (hoodwinkref08_Right.j1 kj9 a1 a2 a3 t149 (wrap64 (a0_4)) false)))) = some r := by rw [if_neg (show ¬ (false = true) by decide)] at H; exact H
          clear H
          have H := H1
          clear H1
          replace H := Option.bind_eq_some_iff.mp H
          obtain ⟨t157, A490, H⟩ := H
          replace H : (if t157 = true then (if a0_3 > 0 then (if a0_3 < 49 then (if (wrap64 (a0_4)) ≥ 0 then (if (wrap64 (a0_4)) < a2 then (some (decide ((wrap64 ((wrap64 (a0_4)) + (wrap64 (a0_3)))) ≤ a2))) else (some false)) else (some false)) else (some false)) else (some false)) else (if a0_3 > 0 then ((hoodwinkref08_has.f kj9 t149 67).bind fun t158 => (if t158 = true then (hoodwinkref08_Right.j1 kj9 a1 a2 a3 t149 (wrap64 (a0_4)) (decide (a0_3 > 7))) else (hoodwinkref08_Right.j1 kj9 a1 a2 a3 t149 (wrap64 (a0_4)) true))) else (hoodwinkref08_Right.j1 kj9 a1 a2 a3 t149 (wrap64 (a0_4)) false))) = some r := H
          have A49 := Aside0.mk A490
          clear A490
          by_cases c50 : t157 = true
          · subst c50
            have H1 : (if a0_3 > 0 then (if a0_3 < 49 then (if (wrap64 (a0_4)) ≥ 0 then (if (wrap64 (a0_4)) < a2 then (some (decide ((wrap64 ((wrap64 (a0_4)) + (wrap64 (a0_3)))) ≤ a2))) else (some false)) else (some false)) else (some false)) else (some false)) = some r := by rw [if_pos rfl] at H; exact H
            clear H
            have H := H1
            clear H1
            by_cases c51 : a0_3 > 0
            · rw [if_pos c51] at H
              have c51b0 : decide (0 < a0_3) = true := decide_eq_true c51
              clear c51
              by_cases c52 : a0_3 < 49
              · rw [if_pos c52] at H
                have c52b0 : decide (a0_3 < 49) = true := decide_eq_true c52
                clear c52
                by_cases c53 : (wrap64 (a0_4)) ≥ 0
                · rw [if_pos c53] at H
                  have c53b0 : decide (0 ≤ (wrap64 (a0_4))) = true := decide_eq_true c53
                  clear c53
                  by_cases c54 : (wrap64 (a0_4)) < a2
                  · rw [if_pos c54] at H
                    have c54b0 : decide ((wrap64 (a0_4)) < a2) = true := decide_eq_true c54
                    clear c54
                    obtain rfl := Option.some.inj H
                    have hcz55_0 : wc.cell? ⟨gb147, 0, none⟩ = some (.int .u8 a0_0) := (blk_cell BK147.out 0).trans rfl
                    have hcz55_1 : wc.cell? ⟨gb147, 1, none⟩ = some (.int .u8 a0_1) := (blk_cell BK147.out 1).trans rfl
                    have hcz55_2 : wc.cell? ⟨gb147, 2, none⟩ = some (.int .u8 a0_2) := (blk_cell BK147.out 2).trans rfl
                    have hcz55_3 : wc.cell? ⟨gb147, 3, none⟩ = some (.int .u8 a0_3) := (blk_cell BK147.out 3).trans rfl
                    have hcz55_4 : wc.cell? ⟨gb147, 4, none⟩ = some (.int .i32 a0_4) := (blk_cell BK147.out 4).trans rfl
                    have hcz55_5 : wc.cell? ⟨gb147, 5, none⟩ = some (.int .u32 a0_5) := (blk_cell BK147.out 5).trans rfl
                    have hfz55_0 := blk_frozen BK147.out 0
                    have hfz55_1 := blk_frozen BK147.out 1
                    have hfz55_2 := blk_frozen BK147.out 2
                    have hfz55_3 := blk_frozen BK147.out 3
                    have hfz55_4 := blk_frozen BK147.out 4
                    have hfz55_5 := blk_frozen BK147.out 5
                    go_wp2_with (first | ((with_reducible refine gate_callee (f := 32) rfl ?_); refine goesL_ (some 62) rfl rfl Tryd.func32 (by kernel_rfl) rfl #[.string t149, .int .u8 114] rfl (by (try simp only [List.map_toArray, List.map_cons, List.map_nil]); first | done | rfl | (simp only [List.length_drop, List.length_take]; rfl)) ?_; (with_reducible refine (hoodwinkref08_has.calls kj9 t149 114 true _ A49.out).mono ?_); rintro e w' ⟨rfl, ⟨nd, rfl⟩⟩; refine ⟨_, rfl, ?_⟩))
                    go_ret
                    exact ⟨by first | rfl | (simp [errW_none, errW_some] <;> rfl) | (simp [*, errW_none, errW_some] <;> rfl), by repeat (first | (with_reducible first | exact HB.out | apply below_alloc | apply pw_below_drewN | apply below_drew1 | refine below_set ?_ GE147.out) | exact HB.out)⟩
                  · rw [if_neg c54] at H
                    have c54b0 : decide ((wrap64 (a0_4)) < a2) = false := decide_eq_false c54
                    clear c54
                    obtain rfl := Option.some.inj H
                    have hcz56_0 : wc.cell? ⟨gb147, 0, none⟩ = some (.int .u8 a0_0) := (blk_cell BK147.out 0).trans rfl
                    have hcz56_1 : wc.cell? ⟨gb147, 1, none⟩ = some (.int .u8 a0_1) := (blk_cell BK147.out 1).trans rfl
                    have hcz56_2 : wc.cell? ⟨gb147, 2, none⟩ = some (.int .u8 a0_2) := (blk_cell BK147.out 2).trans rfl
                    have hcz56_3 : wc.cell? ⟨gb147, 3, none⟩ = some (.int .u8 a0_3) := (blk_cell BK147.out 3).trans rfl
                    have hcz56_4 : wc.cell? ⟨gb147, 4, none⟩ = some (.int .i32 a0_4) := (blk_cell BK147.out 4).trans rfl
                    have hcz56_5 : wc.cell? ⟨gb147, 5, none⟩ = some (.int .u32 a0_5) := (blk_cell BK147.out 5).trans rfl
                    have hfz56_0 := blk_frozen BK147.out 0
                    have hfz56_1 := blk_frozen BK147.out 1
                    have hfz56_2 := blk_frozen BK147.out 2
                    have hfz56_3 := blk_frozen BK147.out 3
                    have hfz56_4 := blk_frozen BK147.out 4
                    have hfz56_5 := blk_frozen BK147.out 5
                    go_wp2_with (first | ((with_reducible refine gate_callee (f := 32) rfl ?_); refine goesL_ (some 62) rfl rfl Tryd.func32 (by kernel_rfl) rfl #[.string t149, .int .u8 114] rfl (by (try simp only [List.map_toArray, List.map_cons, List.map_nil]); first | done | rfl | (simp only [List.length_drop, List.length_take]; rfl)) ?_; (with_reducible refine (hoodwinkref08_has.calls kj9 t149 114 true _ A49.out).mono ?_); rintro e w' ⟨rfl, ⟨nd, rfl⟩⟩; refine ⟨_, rfl, ?_⟩))
                    go_ret
                    exact ⟨by first | rfl | (simp [errW_none, errW_some] <;> rfl) | (simp [*, errW_none, errW_some] <;> rfl), by repeat (first | (with_reducible first | exact HB.out | apply below_alloc | apply pw_below_drewN | apply below_drew1 | refine below_set ?_ GE147.out) | exact HB.out)⟩
                · rw [if_neg c53] at H
                  have c53b0 : decide (0 ≤ (wrap64 (a0_4))) = false := decide_eq_false c53
                  clear c53
                  obtain rfl := Option.some.inj H
                  have hcz57_0 : wc.cell? ⟨gb147, 0, none⟩ = some (.int .u8 a0_0) := (blk_cell BK147.out 0).trans rfl
                  have hcz57_1 : wc.cell? ⟨gb147, 1, none⟩ = some (.int .u8 a0_1) := (blk_cell BK147.out 1).trans rfl
                  have hcz57_2 : wc.cell? ⟨gb147, 2, none⟩ = some (.int .u8 a0_2) := (blk_cell BK147.out 2).trans rfl
                  have hcz57_3 : wc.cell? ⟨gb147, 3, none⟩ = some (.int .u8 a0_3) := (blk_cell BK147.out 3).trans rfl
                  have hcz57_4 : wc.cell? ⟨gb147, 4, none⟩ = some (.int .i32 a0_4) := (blk_cell BK147.out 4).trans rfl
                  have hcz57_5 : wc.cell? ⟨gb147, 5, none⟩ = some (.int .u32 a0_5) := (blk_cell BK147.out 5).trans rfl
                  have hfz57_0 := blk_frozen BK147.out 0
                  have hfz57_1 := blk_frozen BK147.out 1
                  have hfz57_2 := blk_frozen BK147.out 2
                  have hfz57_3 := blk_frozen BK147.out 3
                  have hfz57_4 := blk_frozen BK147.out 4
                  have hfz57_5 := blk_frozen BK147.out 5
                  go_wp2_with (first | ((with_reducible refine gate_callee (f := 32) rfl ?_); refine goesL_ (some 62) rfl rfl Tryd.func32 (by kernel_rfl) rfl #[.string t149, .int .u8 114] rfl (by (try simp only [List.map_toArray, List.map_cons, List.map_nil]); first | done | rfl | (simp only [List.length_drop, List.length_take]; rfl)) ?_; (with_reducible refine (hoodwinkref08_has.calls kj9 t149 114 true _ A49.out).mono ?_); rintro e w' ⟨rfl, ⟨nd, rfl⟩⟩; refine ⟨_, rfl, ?_⟩))
                  go_ret
                  exact ⟨by first | rfl | (simp [errW_none, errW_some] <;> rfl) | (simp [*, errW_none, errW_some] <;> rfl), by repeat (first | (with_reducible first | exact HB.out | apply below_alloc | apply pw_below_drewN | apply below_drew1 | refine below_set ?_ GE147.out) | exact HB.out)⟩
              · rw [if_neg c52] at H
                have c52b0 : decide (a0_3 < 49) = false := decide_eq_false c52
                clear c52
                obtain rfl := Option.some.inj H
                have hcz58_0 : wc.cell? ⟨gb147, 0, none⟩ = some (.int .u8 a0_0) := (blk_cell BK147.out 0).trans rfl
                have hcz58_1 : wc.cell? ⟨gb147, 1, none⟩ = some (.int .u8 a0_1) := (blk_cell BK147.out 1).trans rfl
                have hcz58_2 : wc.cell? ⟨gb147, 2, none⟩ = some (.int .u8 a0_2) := (blk_cell BK147.out 2).trans rfl
                have hcz58_3 : wc.cell? ⟨gb147, 3, none⟩ = some (.int .u8 a0_3) := (blk_cell BK147.out 3).trans rfl
                have hcz58_4 : wc.cell? ⟨gb147, 4, none⟩ = some (.int .i32 a0_4) := (blk_cell BK147.out 4).trans rfl
                have hcz58_5 : wc.cell? ⟨gb147, 5, none⟩ = some (.int .u32 a0_5) := (blk_cell BK147.out 5).trans rfl
                have hfz58_0 := blk_frozen BK147.out 0
                have hfz58_1 := blk_frozen BK147.out 1
                have hfz58_2 := blk_frozen BK147.out 2
                have hfz58_3 := blk_frozen BK147.out 3
                have hfz58_4 := blk_frozen BK147.out 4
                have hfz58_5 := blk_frozen BK147.out 5
                go_wp2_with (first | ((with_reducible refine gate_callee (f := 32) rfl ?_); refine goesL_ (some 62) rfl rfl Tryd.func32 (by kernel_rfl) rfl #[.string t149, .int .u8 114] rfl (by (try simp only [List.map_toArray, List.map_cons, List.map_nil]); first | done | rfl | (simp only [List.length_drop, List.length_take]; rfl)) ?_; (with_reducible refine (hoodwinkref08_has.calls kj9 t149 114 true _ A49.out).mono ?_); rintro e w' ⟨rfl, ⟨nd, rfl⟩⟩; refine ⟨_, rfl, ?_⟩))
                go_ret
                exact ⟨by first | rfl | (simp [errW_none, errW_some] <;> rfl) | (simp [*, errW_none, errW_some] <;> rfl), by repeat (first | (with_reducible first | exact HB.out | apply below_alloc | apply pw_below_drewN | apply below_drew1 | refine below_set ?_ GE147.out) | exact HB.out)⟩
            · rw [if_neg c51] at H
              have c51b0 : decide (0 < a0_3) = false := decide_eq_false c51
              clear c51
              obtain rfl := Option.some.inj H
              have hcz59_0 : wc.cell? ⟨gb147, 0, none⟩ = some (.int .u8 a0_0) := (blk_cell BK147.out 0).trans rfl
              have hcz59_1 : wc.cell? ⟨gb147, 1, none⟩ = some (.int .u8 a0_1) := (blk_cell BK147.out 1).trans rfl
              have hcz59_2 : wc.cell? ⟨gb147, 2, none⟩ = some (.int .u8 a0_2) := (blk_cell BK147.out 2).trans rfl
              have hcz59_3 : wc.cell? ⟨gb147, 3, none⟩ = some (.int .u8 a0_3) := (blk_cell BK147.out 3).trans rfl
              have hcz59_4 : wc.cell? ⟨gb147, 4, none⟩ = some (.int .i32 a0_4) := (blk_cell BK147.out 4).trans rfl
              have hcz59_5 : wc.cell? ⟨gb147, 5, none⟩ = some (.int .u32 a0_5) := (blk_cell BK147.out 5).trans rfl
              have hfz59_0 := blk_frozen BK147.out 0
              have hfz59_1 := blk_frozen BK147.out 1
              have hfz59_2 := blk_frozen BK147.out 2
              have hfz59_3 := blk_frozen BK147.out 3
              have hfz59_4 := blk_frozen BK147.out 4
              have hfz59_5 := blk_frozen BK147.out 5
              go_wp2_with (first | ((with_reducible refine gate_callee (f := 32) rfl ?_); refine goesL_ (some 62) rfl rfl Tryd.func32 (by kernel_rfl) rfl #[.string t149, .int .u8 114] rfl (by (try simp only [List.map_toArray, List.map_cons, List.map_nil]); first | done | rfl | (simp only [List.length_drop, List.length_take]; rfl)) ?_; (with_reducible refine (hoodwinkref08_has.calls kj9 t149 114 true _ A49.out).mono ?_); rintro e w' ⟨rfl, ⟨nd, rfl⟩⟩; refine ⟨_, rfl, ?_⟩))
              go_ret
              exact ⟨by first | rfl | (simp [errW_none, errW_some] <;> rfl) | (simp [*, errW_none, errW_some] <;> rfl), by repeat (first | (with_reducible first | exact HB.out | apply below_alloc | apply pw_below_drewN | apply below_drew1 | refine below_set ?_ GE147.out) | exact HB.out)⟩
          · replace c50 := Bool.eq_false_iff.mpr c50
            subst c50
            have H1 : (if a0_3 > 0 then ((hoodwinkref08_has.f kj9 t149 67).bind fun t158 => (if t158 = true then (hoodwinkref08_Right.j1 kj9 a1 a2 a3 t149 (wrap64 (a0_4)) (decide (a0_3 > 7))) else (hoodwinkref08_Right.j1 kj9 a1 a2 a3 t149 (wrap64 (a0_4)) true))) else (hoodwinkref08_Right.j1 kj9 a1 a2 a3 t149 (wrap64 (a0_4)) false)) = some r := by rw [if_neg (show ¬ (false = true) by decide)] at H; exact H
            clear H
            have H := H1
            clear H1
            have HC60 := Aside0.mk H
            clear H
            have hcz61_0 : wc.cell? ⟨gb147, 0, none⟩ = some (.int .u8 a0_0) := (blk_cell BK147.out 0).trans rfl
            have hcz61_1 : wc.cell? ⟨gb147, 1, none⟩ = some (.int .u8 a0_1) := (blk_cell BK147.out 1).trans rfl
            have hcz61_2 : wc.cell? ⟨gb147, 2, none⟩ = some (.int .u8 a0_2) := (blk_cell BK147.out 2).trans rfl
            have hcz61_3 : wc.cell? ⟨gb147, 3, none⟩ = some (.int .u8 a0_3) := (blk_cell BK147.out 3).trans rfl
            have hcz61_4 : wc.cell? ⟨gb147, 4, none⟩ = some (.int .i32 a0_4) := (blk_cell BK147.out 4).trans rfl
            have hcz61_5 : wc.cell? ⟨gb147, 5, none⟩ = some (.int .u32 a0_5) := (blk_cell BK147.out 5).trans rfl
            have hfz61_0 := blk_frozen BK147.out 0
            have hfz61_1 := blk_frozen BK147.out 1
            have hfz61_2 := blk_frozen BK147.out 2
            have hfz61_3 := blk_frozen BK147.out 3
            have hfz61_4 := blk_frozen BK147.out 4
            have hfz61_5 := blk_frozen BK147.out 5
            go_upto_region 9 with (first | ((with_reducible refine gate_callee (f := 32) rfl ?_); refine goesL_ (some 62) rfl rfl Tryd.func32 (by kernel_rfl) rfl #[.string t149, .int .u8 114] rfl (by (try simp only [List.map_toArray, List.map_cons, List.map_nil]); first | done | rfl | (simp only [List.length_drop, List.length_take]; rfl)) ?_; (with_reducible refine (hoodwinkref08_has.calls kj9 t149 114 false _ A49.out).mono ?_); rintro e w' ⟨rfl, ⟨nd, rfl⟩⟩; refine ⟨_, rfl, ?_⟩))
            (try simp only [Act.put, List.setIfInBounds_toArray, List.set_cons_zero, List.set_cons_succ])
            go_cut [101] (fun v101 wc => ∃ (kq : Nat) (x101_59 : Bool), v101 = .bool x101_59 ∧ Aside0 (hoodwinkref08_Right.j1 kq a1 a2 a3 t149 (wrap64 (a0_4)) x101_59 = some r) ∧ Aside0 (kq ≤ kj9) ∧ Aside0 (wc.heap[gb147]? = some (.cells #[.int .u8 a0_0, .int .u8 a0_1, .int .u8 a0_2, .int .u8 a0_3, .int .i32 a0_4, .int .u32 a0_5] 29 (0, 0))) ∧ Aside0 (Below w.heap.size w wc))
            case first =>
              have H := HC60.out
              clear HC60
              by_cases c62 : a0_3 > 0
              · rw [if_pos c62] at H
                have c62b0 : decide (0 < a0_3) = true := decide_eq_true c62
                clear c62
                (first | rw [c62b0] | (simp only [i64_w, i32_w]; rw [c62b0]) | skip)
                replace H := Option.bind_eq_some_iff.mp H
                obtain ⟨t158, A630, H⟩ := H
                replace H : (if t158 = true then (hoodwinkref08_Right.j1 kj9 a1 a2 a3 t149 (wrap64 (a0_4)) (decide (a0_3 > 7))) else (hoodwinkref08_Right.j1 kj9 a1 a2 a3 t149 (wrap64 (a0_4)) true)) = some r := H
                have A63 := Aside0.mk A630
                clear A630
                by_cases c64 : t158 = true
                · subst c64
                  have H1 : (hoodwinkref08_Right.j1 kj9 a1 a2 a3 t149 (wrap64 (a0_4)) (decide (a0_3 > 7))) = some r := by rw [if_pos rfl] at H; exact H
                  clear H
                  have H := H1
                  clear H1
                  have H' := Aside0.mk H
                  clear H
                  have hcz65_0 : wc.cell? ⟨gb147, 0, none⟩ = some (.int .u8 a0_0) := (blk_cell BK147.out 0).trans rfl
                  have hcz65_1 : wc.cell? ⟨gb147, 1, none⟩ = some (.int .u8 a0_1) := (blk_cell BK147.out 1).trans rfl
                  have hcz65_2 : wc.cell? ⟨gb147, 2, none⟩ = some (.int .u8 a0_2) := (blk_cell BK147.out 2).trans rfl
                  have hcz65_3 : wc.cell? ⟨gb147, 3, none⟩ = some (.int .u8 a0_3) := (blk_cell BK147.out 3).trans rfl
                  have hcz65_4 : wc.cell? ⟨gb147, 4, none⟩ = some (.int .i32 a0_4) := (blk_cell BK147.out 4).trans rfl
                  have hcz65_5 : wc.cell? ⟨gb147, 5, none⟩ = some (.int .u32 a0_5) := (blk_cell BK147.out 5).trans rfl
                  have hfz65_0 := blk_frozen BK147.out 0
                  have hfz65_1 := blk_frozen BK147.out 1
                  have hfz65_2 := blk_frozen BK147.out 2
                  have hfz65_3 := blk_frozen BK147.out 3
                  have hfz65_4 := blk_frozen BK147.out 4
                  have hfz65_5 := blk_frozen BK147.out 5
                  go_wp2_with (first | (go_at_call 32; (with_reducible refine (hoodwinkref08_has.calls kj9 t149 67 true _ A63.out).mono ?_); rintro e w' ⟨rfl, ⟨nd, rfl⟩⟩))
                  go_meet
                  case rel => exact ⟨_, (decide (a0_3 > 7)), (by first | rfl | (simp; done) | (simp [*]; done)), H', ⟨by have := HJ9.out; first | omega | exact Nat.le_refl _⟩, ⟨by (with_reducible repeat (first | refine blk_drewN ?_ _ | refine blk_drew ?_ | refine blk_alloc ?_ _)); exact BK147.out⟩, ⟨by repeat (first | (with_reducible first | exact HB.out | apply below_alloc | apply pw_below_drewN | apply below_drew1 | refine below_set ?_ GE147.out) | exact HB.out)⟩⟩
                · replace c64 := Bool.eq_false_iff.mpr c64
                  subst c64
                  have H1 : (hoodwinkref08_Right.j1 kj9 a1 a2 a3 t149 (wrap64 (a0_4)) true) = some r := by rw [if_neg (show ¬ (false = true) by decide)] at H; exact H
                  clear H
                  have H := H1
                  clear H1
                  have H' := Aside0.mk H
                  clear H
                  have hcz66_0 : wc.cell? ⟨gb147, 0, none⟩ = some (.int .u8 a0_0) := (blk_cell BK147.out 0).trans rfl
                  have hcz66_1 : wc.cell? ⟨gb147, 1, none⟩ = some (.int .u8 a0_1) := (blk_cell BK147.out 1).trans rfl
                  have hcz66_2 : wc.cell? ⟨gb147, 2, none⟩ = some (.int .u8 a0_2) := (blk_cell BK147.out 2).trans rfl
                  have hcz66_3 : wc.cell? ⟨gb147, 3, none⟩ = some (.int .u8 a0_3) := (blk_cell BK147.out 3).trans rfl
                  have hcz66_4 : wc.cell? ⟨gb147, 4, none⟩ = some (.int .i32 a0_4) := (blk_cell BK147.out 4).trans rfl
                  have hcz66_5 : wc.cell? ⟨gb147, 5, none⟩ = some (.int .u32 a0_5) := (blk_cell BK147.out 5).trans rfl
                  have hfz66_0 := blk_frozen BK147.out 0
                  have hfz66_1 := blk_frozen BK147.out 1
                  have hfz66_2 := blk_frozen BK147.out 2
                  have hfz66_3 := blk_frozen BK147.out 3
                  have hfz66_4 := blk_frozen BK147.out 4
                  have hfz66_5 := blk_frozen BK147.out 5
                  go_wp2_with (first | (go_at_call 32; (with_reducible refine (hoodwinkref08_has.calls kj9 t149 67 false _ A63.out).mono ?_); rintro e w' ⟨rfl, ⟨nd, rfl⟩⟩))
                  go_meet
                  case rel => exact ⟨_, (true), (by first | rfl | (simp; done) | (simp [*]; done)), H', ⟨by have := HJ9.out; first | omega | exact Nat.le_refl _⟩, ⟨by (with_reducible repeat (first | refine blk_drewN ?_ _ | refine blk_drew ?_ | refine blk_alloc ?_ _)); exact BK147.out⟩, ⟨by repeat (first | (with_reducible first | exact HB.out | apply below_alloc | apply pw_below_drewN | apply below_drew1 | refine below_set ?_ GE147.out) | exact HB.out)⟩⟩
              · rw [if_neg c62] at H
                have c62b0 : decide (0 < a0_3) = false := decide_eq_false c62
                clear c62
                (first | rw [c62b0] | (simp only [i64_w, i32_w]; rw [c62b0]) | skip)
                have H' := Aside0.mk H
                clear H
                have hcz67_0 : wc.cell? ⟨gb147, 0, none⟩ = some (.int .u8 a0_0) := (blk_cell BK147.out 0).trans rfl
                have hcz67_1 : wc.cell? ⟨gb147, 1, none⟩ = some (.int .u8 a0_1) := (blk_cell BK147.out 1).trans rfl
                have hcz67_2 : wc.cell? ⟨gb147, 2, none⟩ = some (.int .u8 a0_2) := (blk_cell BK147.out 2).trans rfl
                have hcz67_3 : wc.cell? ⟨gb147, 3, none⟩ = some (.int .u8 a0_3) := (blk_cell BK147.out 3).trans rfl
                have hcz67_4 : wc.cell? ⟨gb147, 4, none⟩ = some (.int .i32 a0_4) := (blk_cell BK147.out 4).trans rfl
                have hcz67_5 : wc.cell? ⟨gb147, 5, none⟩ = some (.int .u32 a0_5) := (blk_cell BK147.out 5).trans rfl
                have hfz67_0 := blk_frozen BK147.out 0
                have hfz67_1 := blk_frozen BK147.out 1
                have hfz67_2 := blk_frozen BK147.out 2
                have hfz67_3 := blk_frozen BK147.out 3
                have hfz67_4 := blk_frozen BK147.out 4
                have hfz67_5 := blk_frozen BK147.out 5
                go_wp2
                go_meet
                case rel => exact ⟨_, (false), (by first | rfl | (simp; done) | (simp [*]; done)), H', ⟨by have := HJ9.out; first | omega | exact Nat.le_refl _⟩, ⟨by (with_reducible repeat (first | refine blk_drewN ?_ _ | refine blk_drew ?_ | refine blk_alloc ?_ _)); exact BK147.out⟩, ⟨by repeat (first | (with_reducible first | exact HB.out | apply below_alloc | apply pw_below_drewN | apply below_drew1 | refine below_set ?_ GE147.out) | exact HB.out)⟩⟩
            case rest =>
              clear HC60
              try clear c1
              try clear c2
              try clear p2
              try clear c3
              try clear c4
              try clear c5
              try clear c6
              try clear c6b0
              try clear c6b1
              try clear p6
              try clear c11
              try clear c14
              try clear c14b0
              try clear c16
              try clear c17
              try clear c17b0
              try clear c19
              try clear c19b0
              try clear c21
              try clear c22
              try clear c22b0
              try clear c24
              try clear c24b0
              try clear c29
              try clear c29b0
              try clear c32
              try clear c34
              try clear c34b0
              try clear c36
              try clear c37
              try clear c37b0
              try clear c39
              try clear c39b0
              try clear c44
              try clear c44b0
              try clear c48
              try clear c50
              try clear c51
              try clear c51b0
              try clear c52
              try clear c52b0
              try clear c53
              try clear c53b0
              try clear c54
              try clear c54b0
              try clear c62
              try clear c62b0
              try clear c64
              try clear p64
              try clear hcz12_0
              try clear hcz12_1
              try clear hcz12_2
              try clear hcz12_3
              try clear hcz12_4
              try clear hcz12_5
              try clear hcz18_0
              try clear hcz18_1
              try clear hcz18_2
              try clear hcz18_3
              try clear hcz18_4
              try clear hcz18_5
              try clear hcz23_0
              try clear hcz23_1
              try clear hcz23_2
              try clear hcz23_3
              try clear hcz23_4
              try clear hcz23_5
              try clear hcz26_0
              try clear hcz26_1
              try clear hcz26_2
              try clear hcz26_3
              try clear hcz26_4
              try clear hcz26_5
              try clear hcz27_0
              try clear hcz27_1
              try clear hcz27_2
              try clear hcz27_3
              try clear hcz27_4
              try clear hcz27_5
              try clear hcz28_0
              try clear hcz28_1
              try clear hcz28_2
              try clear hcz28_3
              try clear hcz28_4
              try clear hcz28_5
              try clear hcz31_0
              try clear hcz31_1
              try clear hcz31_2
              try clear hcz31_3
              try clear hcz31_4
              try clear hcz31_5
              try clear hcz32_0
              try clear hcz32_1
              try clear hcz32_2
              try clear hcz32_3
              try clear hcz32_4
              try clear hcz32_5
              try clear hcz33_0
              try clear hcz33_1
              try clear hcz33_2
              try clear hcz33_3
              try clear hcz33_4
              try clear hcz33_5
              try clear hcz38_0
              try clear hcz38_1
              try clear hcz38_2
              try clear hcz38_3
              try clear hcz38_4
              try clear hcz38_5
              try clear hcz41_0
              try clear hcz41_1
              try clear hcz41_2
              try clear hcz41_3
              try clear hcz41_4
              try clear hcz41_5
              try clear hcz42_0
              try clear hcz42_1
              try clear hcz42_2
              try clear hcz42_3
              try clear hcz42_4
              try clear hcz42_5
              try clear hcz43_0
              try clear hcz43_1
              try clear hcz43_2
              try clear hcz43_3
              try clear hcz43_4
              try clear hcz43_5
              try clear hcz46_0
              try clear hcz46_1
              try clear hcz46_2
              try clear hcz46_3
              try clear hcz46_4
              try clear hcz46_5
              try clear hcz47_0
              try clear hcz47_1
              try clear hcz47_2
              try clear hcz47_3
              try clear hcz47_4
              try clear hcz47_5
              try clear hcz55_0
              try clear hcz55_1
              try clear hcz55_2
              try clear hcz55_3
              try clear hcz55_4
              try clear hcz55_5
              try clear hcz56_0
              try clear hcz56_1
              try clear hcz56_2
              try clear hcz56_3
              try clear hcz56_4
              try clear hcz56_5
              try clear hcz57_0
              try clear hcz57_1
              try clear hcz57_2
              try clear hcz57_3
              try clear hcz57_4
              try clear hcz57_5
              try clear hcz58_0
              try clear hcz58_1
              try clear hcz58_2
              try clear hcz58_3
              try clear hcz58_4
              try clear hcz58_5
              try clear hcz59_0
              try clear hcz59_1
              try clear hcz59_2
              try clear hcz59_3
              try clear hcz59_4
              try clear hcz59_5
              try clear hcz61_0
              try clear hcz61_1
              try clear hcz61_2
              try clear hcz61_3
              try clear hcz61_4
              try clear hcz61_5
              try clear hcz65_0
              try clear hcz65_1
              try clear hcz65_2
              try clear hcz65_3
              try clear hcz65_4
              try clear hcz65_5
              try clear hcz66_0
              try clear hcz66_1
              try clear hcz66_2
              try clear hcz66_3
              try clear hcz66_4
              try clear hcz66_5
              try clear hcz67_0
              try clear hcz67_1
              try clear hcz67_2
              try clear hcz67_3
              try clear hcz67_4
              try clear hcz67_5
              try clear hcz8_0
              try clear hcz8_1
              try clear hcz8_2
              try clear hcz8_3
              try clear hcz8_4
              try clear hcz8_5
              try clear hfz12_0
              try clear hfz12_1
              try clear hfz12_2
              try clear hfz12_3
              try clear hfz12_4
              try clear hfz12_5
              try clear hfz18_0
              try clear hfz18_1
              try clear hfz18_2
              try clear hfz18_3
              try clear hfz18_4
              try clear hfz18_5
              try clear hfz23_0
              try clear hfz23_1
              try clear hfz23_2
              try clear hfz23_3
              try clear hfz23_4
              try clear hfz23_5
              try clear hfz26_0
              try clear hfz26_1
              try clear hfz26_2
              try clear hfz26_3
              try clear hfz26_4
              try clear hfz26_5
              try clear hfz27_0
              try clear hfz27_1
              try clear hfz27_2
              try clear hfz27_3
              try clear hfz27_4
              try clear hfz27_5
              try clear hfz28_0
              try clear hfz28_1
              try clear hfz28_2
              try clear hfz28_3
              try clear hfz28_4
              try clear hfz28_5
              try clear hfz31_0
              try clear hfz31_1
              try clear hfz31_2
              try clear hfz31_3
              try clear hfz31_4
              try clear hfz31_5
              try clear hfz32_0
              try clear hfz32_1
              try clear hfz32_2
              try clear hfz32_3
              try clear hfz32_4
              try clear hfz32_5
              try clear hfz33_0
              try clear hfz33_1
              try clear hfz33_2
              try clear hfz33_3
              try clear hfz33_4
              try clear hfz33_5
              try clear hfz38_0
              try clear hfz38_1
              try clear hfz38_2
              try clear hfz38_3
              try clear hfz38_4
              try clear hfz38_5
              try clear hfz41_0
              try clear hfz41_1
              try clear hfz41_2
              try clear hfz41_3
              try clear hfz41_4
              try clear hfz41_5
              try clear hfz42_0
              try clear hfz42_1
              try clear hfz42_2
              try clear hfz42_3
              try clear hfz42_4
              try clear hfz42_5
              try clear hfz43_0
              try clear hfz43_1
              try clear hfz43_2
              try clear hfz43_3
              try clear hfz43_4
              try clear hfz43_5
              try clear hfz46_0
              try clear hfz46_1
              try clear hfz46_2
              try clear hfz46_3
              try clear hfz46_4
              try clear hfz46_5
              try clear hfz47_0
              try clear hfz47_1
              try clear hfz47_2
              try clear hfz47_3
              try clear hfz47_4
              try clear hfz47_5
              try clear hfz55_0
              try clear hfz55_1
              try clear hfz55_2
              try clear hfz55_3
              try clear hfz55_4
              try clear hfz55_5
              try clear hfz56_0
              try clear hfz56_1
              try clear hfz56_2
              try clear hfz56_3
              try clear hfz56_4
              try clear hfz56_5
              try clear hfz57_0
              try clear hfz57_1
              try clear hfz57_2
              try clear hfz57_3
              try clear hfz57_4
              try clear hfz57_5
              try clear hfz58_0
              try clear hfz58_1
              try clear hfz58_2
              try clear hfz58_3
              try clear hfz58_4
              try clear hfz58_5
              try clear hfz59_0
              try clear hfz59_1
              try clear hfz59_2
              try clear hfz59_3
              try clear hfz59_4
              try clear hfz59_5
              try clear hfz61_0
              try clear hfz61_1
              try clear hfz61_2
              try clear hfz61_3
              try clear hfz61_4
              try clear hfz61_5
              try clear hfz65_0
              try clear hfz65_1
              try clear hfz65_2
              try clear hfz65_3
              try clear hfz65_4
              try clear hfz65_5
              try clear hfz66_0
              try clear hfz66_1
              try clear hfz66_2
              try clear hfz66_3
              try clear hfz66_4
              try clear hfz66_5
              try clear hfz67_0
              try clear hfz67_1
              try clear hfz67_2
              try clear hfz67_3
              try clear hfz67_4
              try clear hfz67_5
              try clear hfz8_0
              try clear hfz8_1
              try clear hfz8_2
              try clear hfz8_3
              try clear hfz8_4
              try clear hfz8_5
              try clear p2
              obtain ⟨kq, x101_59, rfl, HA, HJ59, BK147, HB⟩ := hcut
              cases kq with
              | zero => exact absurd HA.out (by simp [hoodwinkref08_Right.j1])
              | succ kj59 =>
                have H := HA.out
                clear HA
                simp only [hoodwinkref08_Right.j1] at H
                by_cases c68 : x101_59 = true
                · subst c68
                  have H1 : (some false) = some r := by rw [if_pos rfl] at H; exact H
                  clear H
                  have H := H1
                  clear H1
                  obtain rfl := Option.some.inj H
                  go_wp2
                  go_ret
                  exact ⟨by first | rfl | (simp [errW_none, errW_some] <;> rfl) | (simp [*, errW_none, errW_some] <;> rfl), by repeat (first | (with_reducible first | exact HB.out | apply below_alloc | apply pw_below_drewN | apply below_drew1 | refine below_set ?_ GE147.out) | exact HB.out)⟩
                · replace c68 := Bool.eq_false_iff.mpr c68
                  subst c68
                  have H1 : ((hoodwinkref08_has.f kj59 t149 110).bind fun t159 => (if t159 = true then (some true) else ((hoodwinkref08_has.f kj59 t149 99).bind fun t160 => (if t160 = true then (if (wrap64 (a0_4)) ≥ 0 then (some (decide ((wrap64 (a0_4)) < a2))) else (some false)) else ((hoodwinkref08_has.f kj59 t149 112).bind fun t161 => (if t161 = true then (if (wrap64 (a0_4)) ≥ 0 then (some (decide ((wrap64 (a0_4)) ≤ a1))) else (some false)) else ((hoodwinkref08_has.f kj59 t149 109).bind fun t162 => (if t162 = true then (if (wrap64 (a0_4)) ≥ 0 then (some (decide ((wrap64 (a0_4)) < a3))) else (some false)) else ((hoodwinkref08_has.f kj59 t149 115).bind fun t163 => (if t163 = true then (some (decide ((wrap64 (a0_4)) > 0))) else (some ((wrap64 (a0_4)) == 0)))))))))))) = some r := by rw [if_neg (show ¬ (false = true) by decide)] at H; exact H
                  clear H
                  have H := H1
                  clear H1
                  replace H := Option.bind_eq_some_iff.mp H
                  obtain ⟨t159, A690, H⟩ := H
                  replace H : (if t159 = true then (some true) else ((hoodwinkref08_has.f kj59 t149 99).bind fun t160 => (if t160 = true then (if (wrap64 (a0_4)) ≥ 0 then (some (decide ((wrap64 (a0_4)) < a2))) else (some false)) else ((hoodwinkref08_has.f kj59 t149 112).bind fun t161 => (if t161 = true then (if (wrap64 (a0_4)) ≥ 0 then (some (decide ((wrap64 (a0_4)) ≤ a1))) else (some false)) else ((hoodwinkref08_has.f kj59 t149 109).bind fun t162 => (if t162 = true then (if (wrap64 (a0_4)) ≥ 0 then (some (decide ((wrap64 (a0_4)) < a3))) else (some false)) else ((hoodwinkref08_has.f kj59 t149 115).bind fun t163 => (if t163 = true then (some (decide ((wrap64 (a0_4)) > 0))) else (some ((wrap64 (a0_4)) == 0))))))))))) = some r := H
                  have A69 := Aside0.mk A690
                  clear A690
                  by_cases c70 : t159 = true
                  · subst c70
                    have H1 : (some true) = some r := by rw [if_pos rfl] at H; exact H
                    clear H
                    have H := H1
                    clear H1
                    obtain rfl := Option.some.inj H
                    go_wp2_with (first | ((with_reducible refine gate_callee (f := 32) rfl ?_); refine goesL_ (some 104) rfl rfl Tryd.func32 (by kernel_rfl) rfl #[.string t149, .int .u8 110] rfl (by (try simp only [List.map_toArray, List.map_cons, List.map_nil]); first | done | rfl | (simp only [List.length_drop, List.length_take]; rfl)) ?_; (with_reducible refine (hoodwinkref08_has.calls kj59 t149 110 true _ A69.out).mono ?_); rintro e w' ⟨rfl, ⟨nd, rfl⟩⟩; refine ⟨_, rfl, ?_⟩))
                    go_ret
                    exact ⟨by first | rfl | (simp [errW_none, errW_some] <;> rfl) | (simp [*, errW_none, errW_some] <;> rfl), by repeat (first | (with_reducible first | exact HB.out | apply below_alloc | apply pw_below_drewN | apply below_drew1 | refine below_set ?_ GE147.out) | exact HB.out)⟩
                  · replace c70 := Bool.eq_false_iff.mpr c70
                    subst c70
                    have H1 : ((hoodwinkref08_has.f kj59 t149 99).bind fun t160 => (if t160 = true then (if (wrap64 (a0_4)) ≥ 0 then (some (decide ((wrap64 (a0_4)) < a2))) else (some false)) else ((hoodwinkref08_has.f kj59 t149 112).bind fun t161 => (if t161 = true then (if (wrap64 (a0_4)) ≥ 0 then (some (decide ((wrap64 (a0_4)) ≤ a1))) else (some false)) else ((hoodwinkref08_has.f kj59 t149 109).bind fun t162 => (if t162 = true then (if (wrap64 (a0_4)) ≥ 0 then (some (decide ((wrap64 (a0_4)) < a3))) else (some false)) else ((hoodwinkref08_has.f kj59 t149 115).bind fun t163 => (if t163 = true then (some (decide ((wrap64 (a0_4)) > 0))) else (some ((wrap64 (a0_4)) == 0)))))))))) = some r := by rw [if_neg (show ¬ (false = true) by decide)] at H; exact H
                    clear H
                    have H := H1
                    clear H1
                    replace H := Option.bind_eq_some_iff.mp H
                    obtain ⟨t160, A710, H⟩ := H
                    replace H : (if t160 = true then (if (wrap64 (a0_4)) ≥ 0 then (some (decide ((wrap64 (a0_4)) < a2))) else (some false)) else ((hoodwinkref08_has.f kj59 t149 112).bind fun t161 => (if t161 = true then (if (wrap64 (a0_4)) ≥ 0 then (some (decide ((wrap64 (a0_4)) ≤ a1))) else (some false)) else ((hoodwinkref08_has.f kj59 t149 109).bind fun t162 => (if t162 = true then (if (wrap64 (a0_4)) ≥ 0 then (some (decide ((wrap64 (a0_4)) < a3))) else (some false)) else ((hoodwinkref08_has.f kj59 t149 115).bind fun t163 => (if t163 = true then (some (decide ((wrap64 (a0_4)) > 0))) else (some ((wrap64 (a0_4)) == 0))))))))) = some r := H
                    have A71 := Aside0.mk A710
                    clear A710
                    by_cases c72 : t160 = true
                    · subst c72
                      have H1 : (if (wrap64 (a0_4)) ≥ 0 then (some (decide ((wrap64 (a0_4)) < a2))) else (some false)) = some r := by rw [if_pos rfl] at H; exact H
                      clear H
                      have H := H1
                      clear H1
                      by_cases c73 : (wrap64 (a0_4)) ≥ 0
                      · rw [if_pos c73] at H
                        have c73b0 : decide (0 ≤ (wrap64 (a0_4))) = true := decide_eq_true c73
                        clear c73
                        obtain rfl := Option.some.inj H
                        go_wp2_with (first | ((with_reducible refine gate_callee (f := 32) rfl ?_); refine goesL_ (some 104) rfl rfl Tryd.func32 (by kernel_rfl) rfl #[.string t149, .int .u8 110] rfl (by (try simp only [List.map_toArray, List.map_cons, List.map_nil]); first | done | rfl | (simp only [List.length_drop, List.length_take]; rfl)) ?_; (with_reducible refine (hoodwinkref08_has.calls kj59 t149 110 false _ A69.out).mono ?_); rintro e w' ⟨rfl, ⟨nd, rfl⟩⟩; refine ⟨_, rfl, ?_⟩) | ((with_reducible refine gate_callee (f := 32) rfl ?_); refine goesL_ (some 107) rfl rfl Tryd.func32 (by kernel_rfl) rfl #[.string t149, .int .u8 99] rfl (by (try simp only [List.map_toArray, List.map_cons, List.map_nil]); first | done | rfl | (simp only [List.length_drop, List.length_take]; rfl)) ?_; (with_reducible refine (hoodwinkref08_has.calls kj59 t149 99 true _ A71.out).mono ?_); rintro e w' ⟨rfl, ⟨nd, rfl⟩⟩; refine ⟨_, rfl, ?_⟩))
                        go_ret
                        exact ⟨by first | rfl | (simp [errW_none, errW_some] <;> rfl) | (simp [*, errW_none, errW_some] <;> rfl), by repeat (first | (with_reducible first | exact HB.out | apply below_alloc | apply pw_below_drewN | apply below_drew1 | refine below_set ?_ GE147.out) | exact HB.out)⟩
                      · rw [if_neg c73] at H
                        have c73b0 : decide (0 ≤ (wrap64 (a0_4))) = false := decide_eq_false c73
                        clear c73
                        obtain rfl := Option.some.inj H
                        go_wp2_with (first | ((with_reducible refine gate_callee (f := 32) rfl ?_); refine goesL_ (some 104) rfl rfl Tryd.func32 (by kernel_rfl) rfl #[.string t149, .int .u8 110] rfl (by (try simp only [List.map_toArray, List.map_cons, List.map_nil]); first | done | rfl | (simp only [List.length_drop, List.length_take]; rfl)) ?_; (with_reducible refine (hoodwinkref08_has.calls kj59 t149 110 false _ A69.out).mono ?_); rintro e w' ⟨rfl, ⟨nd, rfl⟩⟩; refine ⟨_, rfl, ?_⟩) | ((with_reducible refine gate_callee (f := 32) rfl ?_); refine goesL_ (some 107) rfl rfl Tryd.func32 (by kernel_rfl) rfl #[.string t149, .int .u8 99] rfl (by (try simp only [List.map_toArray, List.map_cons, List.map_nil]); first | done | rfl | (simp only [List.length_drop, List.length_take]; rfl)) ?_; (with_reducible refine (hoodwinkref08_has.calls kj59 t149 99 true _ A71.out).mono ?_); rintro e w' ⟨rfl, ⟨nd, rfl⟩⟩; refine ⟨_, rfl, ?_⟩))
                        go_ret
                        exact ⟨by first | rfl | (simp [errW_none, errW_some] <;> rfl) | (simp [*, errW_none, errW_some] <;> rfl), by repeat (first | (with_reducible first | exact HB.out | apply below_alloc | apply pw_below_drewN | apply below_drew1 | refine below_set ?_ GE147.out) | exact HB.out)⟩
                    · replace c72 := Bool.eq_false_iff.mpr c72
                      subst c72
                      have H1 : ((hoodwinkref08_has.f kj59 t149 112).bind fun t161 => (if t161 = true then (if (wrap64 (a0_4)) ≥ 0 then (some (decide ((wrap64 (a0_4)) ≤ a1))) else (some false)) else ((hoodwinkref08_has.f kj59 t149 109).bind fun t162 => (if t162 = true then (if (wrap64 (a0_4)) ≥ 0 then (some (decide ((wrap64 (a0_4)) < a3))) else (some false)) else ((hoodwinkref08_has.f kj59 t149 115).bind fun t163 => (if t163 = true then (some (decide ((wrap64 (a0_4)) > 0))) else (some ((wrap64 (a0_4)) == 0)))))))) = some r := by rw [if_neg (show ¬ (false = true) by decide)] at H; exact H
                      clear H
                      have H := H1
                      clear H1
                      replace H := Option.bind_eq_some_iff.mp H
                      obtain ⟨t161, A740, H⟩ := H
                      replace H : (if t161 = true then (if (wrap64 (a0_4)) ≥ 0 then (some (decide ((wrap64 (a0_4)) ≤ a1))) else (some false)) else ((hoodwinkref08_has.f kj59 t149 109).bind fun t162 => (if t162 = true then (if (wrap64 (a0_4)) ≥ 0 then (some (decide ((wrap64 (a0_4)) < a3))) else (some false)) else ((hoodwinkref08_has.f kj59 t149 115).bind fun t163 => (if t163 = true then (some (decide ((wrap64 (a0_4)) > 0))) else (some ((wrap64 (a0_4)) == 0))))))) = some r := H
                      have A74 := Aside0.mk A740
                      clear A740
                      by_cases c75 : t161 = true
                      · subst c75
                        have H1 : (if (wrap64 (a0_4)) ≥ 0 then (some (decide ((wrap64 (a0_4)) ≤ a1))) else (some false)) = some r := by rw [if_pos rfl] at H; exact H
                        clear H
                        have H := H1
                        clear H1
                        by_cases c76 : (wrap64 (a0_4)) ≥ 0
                        · rw [if_pos c76] at H
                          have c76b0 : decide (0 ≤ (wrap64 (a0_4))) = true := decide_eq_true c76
                          clear c76
                          obtain rfl := Option.some.inj H
                          go_wp2_with (first | ((with_reducible refine gate_callee (f := 32) rfl ?_); refine goesL_ (some 104) rfl rfl Tryd.func32 (by kernel_rfl) rfl #[.string t149, .int .u8 110] rfl (by (try simp only [List.map_toArray, List.map_cons, List.map_nil]); first | done | rfl | (simp only [List.length_drop, List.length_take]; rfl)) ?_; (with_reducible refine (hoodwinkref08_has.calls kj59 t149 110 false _ A69.out).mono ?_); rintro e w' ⟨rfl, ⟨nd, rfl⟩⟩; refine ⟨_, rfl, ?_⟩) | ((with_reducible refine gate_callee (f := 32) rfl ?_); refine goesL_ (some 107) rfl rfl Tryd.func32 (by kernel_rfl) rfl #[.string t149, .int .u8 99] rfl (by (try simp only [List.map_toArray, List.map_cons, List.map_nil]); first | done | rfl | (simp only [List.length_drop, List.length_take]; rfl)) ?_; (with_reducible refine (hoodwinkref08_has.calls kj59 t149 99 false _ A71.out).mono ?_); rintro e w' ⟨rfl, ⟨nd, rfl⟩⟩; refine ⟨_, rfl, ?_⟩) | ((with_reducible refine gate_callee (f := 32) rfl ?_); refine goesL_ (some 117) rfl rfl Tryd.func32 (by kernel_rfl) rfl #[.string t149, .int .u8 112] rfl (by (try simp only [List.map_toArray, List.map_cons, List.map_nil]); first | done | rfl | (simp only [List.length_drop, List.length_take]; rfl)) ?_; (with_reducible refine (hoodwinkref08_has.calls kj59 t149 112 true _ A74.out).mono ?_); rintro e w' ⟨rfl, ⟨nd, rfl⟩⟩; refine ⟨_, rfl, ?_⟩))
                          go_ret
                          exact ⟨by first | rfl | (simp [errW_none, errW_some] <;> rfl) | (simp [*, errW_none, errW_some] <;> rfl), by repeat (first | (with_reducible first | exact HB.out | apply below_alloc | apply pw_below_drewN | apply below_drew1 | refine below_set ?_ GE147.out) | exact HB.out)⟩
                        · rw [if_neg c76] at H
                          have c76b0 : decide (0 ≤ (wrap64 (a0_4))) = false := decide_eq_false c76
                          clear c76
                          obtain rfl := Option.some.inj H
                          go_wp2_with (first | ((with_reducible refine gate_callee (f := 32) rfl ?_); refine goesL_ (some 104) rfl rfl Tryd.func32 (by kernel_rfl) rfl #[.string t149, .int .u8 110] rfl (by (try simp only [List.map_toArray, List.map_cons, List.map_nil]); first | done | rfl | (simp only [List.length_drop, List.length_take]; rfl)) ?_; (with_reducible refine (hoodwinkref08_has.calls kj59 t149 110 false _ A69.out).mono ?_); rintro e w' ⟨rfl, ⟨nd, rfl⟩⟩; refine ⟨_, rfl, ?_⟩) | ((with_reducible refine gate_callee (f := 32) rfl ?_); refine goesL_ (some 107) rfl rfl Tryd.func32 (by kernel_rfl) rfl #[.string t149, .int .u8 99] rfl (by (try simp only [List.map_toArray, List.map_cons, List.map_nil]); first | done | rfl | (simp only [List.length_drop, List.length_take]; rfl)) ?_; (with_reducible refine (hoodwinkref08_has.calls kj59 t149 99 false _ A71.out).mono ?_); rintro e w' ⟨rfl, ⟨nd, rfl⟩⟩; refine ⟨_, rfl, ?_⟩) | ((with_reducible refine gate_callee (f := 32) rfl ?_); refine goesL_ (some 117) rfl rfl Tryd.func32 (by kernel_rfl) rfl #[.string t149, .int .u8 112] rfl (by (try simp only [List.map_toArray, List.map_cons, List.map_nil]); first | done | rfl | (simp only [List.length_drop, List.length_take]; rfl)) ?_; (with_reducible refine (hoodwinkref08_has.calls kj59 t149 112 true _ A74.out).mono ?_); rintro e w' ⟨rfl, ⟨nd, rfl⟩⟩; refine ⟨_, rfl, ?_⟩))
                          go_ret
                          exact ⟨by first | rfl | (simp [errW_none, errW_some] <;> rfl) | (simp [*, errW_none, errW_some] <;> rfl), by repeat (first | (with_reducible first | exact HB.out | apply below_alloc | apply pw_below_drewN | apply below_drew1 | refine below_set ?_ GE147.out) | exact HB.out)⟩
                      · replace c75 := Bool.eq_false_iff.mpr c75
                        subst c75
                        have H1 : ((hoodwinkref08_has.f kj59 t149 109).bind fun t162 => (if t162 = true then (if (wrap64 (a0_4)) ≥ 0 then (some (decide ((wrap64 (a0_4)) < a3))) else (some false)) else ((hoodwinkref08_has.f kj59 t149 115).bind fun t163 => (if t163 = true then (some (decide ((wrap64 (a0_4)) > 0))) else (some ((wrap64 (a0_4)) == 0)))))) = some r := by rw [if_neg (show ¬ (false = true) by decide)] at H; exact H
                        clear H
                        have H := H1
                        clear H1
                        replace H := Option.bind_eq_some_iff.mp H
                        obtain ⟨t162, A770, H⟩ := H
                        replace H : (if t162 = true then (if (wrap64 (a0_4)) ≥ 0 then (some (decide ((wrap64 (a0_4)) < a3))) else (some false)) else ((hoodwinkref08_has.f kj59 t149 115).bind fun t163 => (if t163 = true then (some (decide ((wrap64 (a0_4)) > 0))) else (some ((wrap64 (a0_4)) == 0))))) = some r := H
                        have A77 := Aside0.mk A770
                        clear A770
                        by_cases c78 : t162 = true
                        · subst c78
                          have H1 : (if (wrap64 (a0_4)) ≥ 0 then (some (decide ((wrap64 (a0_4)) < a3))) else (some false)) = some r := by rw [if_pos rfl] at H; exact H
                          clear H
                          have H := H1
                          clear H1
                          by_cases c79 : (wrap64 (a0_4)) ≥ 0
                          · rw [if_pos c79] at H
                            have c79b0 : decide (0 ≤ (wrap64 (a0_4))) = true := decide_eq_true c79
                            clear c79
                            obtain rfl := Option.some.inj H
                            go_wp2_with (first | ((with_reducible refine gate_callee (f := 32) rfl ?_); refine goesL_ (some 104) rfl rfl Tryd.func32 (by kernel_rfl) rfl #[.string t149, .int .u8 110] rfl (by (try simp only [List.map_toArray, List.map_cons, List.map_nil]); first | done | rfl | (simp only [List.length_drop, List.length_take]; rfl)) ?_; (with_reducible refine (hoodwinkref08_has.calls kj59 t149 110 false _ A69.out).mono ?_); rintro e w' ⟨rfl, ⟨nd, rfl⟩⟩; refine ⟨_, rfl, ?_⟩) | ((with_reducible refine gate_callee (f := 32) rfl ?_); refine goesL_ (some 107) rfl rfl Tryd.func32 (by kernel_rfl) rfl #[.string t149, .int .u8 99] rfl (by (try simp only [List.map_toArray, List.map_cons, List.map_nil]); first | done | rfl | (simp only [List.length_drop, List.length_take]; rfl)) ?_; (with_reducible refine (hoodwinkref08_has.calls kj59 t149 99 false _ A71.out).mono ?_); rintro e w' ⟨rfl, ⟨nd, rfl⟩⟩; refine ⟨_, rfl, ?_⟩) | ((with_reducible refine gate_callee (f := 32) rfl ?_); refine goesL_ (some 117) rfl rfl Tryd.func32 (by kernel_rfl) rfl #[.string t149, .int .u8 112] rfl (by (try simp only [List.map_toArray, List.map_cons, List.map_nil]); first | done | rfl | (simp only [List.length_drop, List.length_take]; rfl)) ?_; (with_reducible refine (hoodwinkref08_has.calls kj59 t149 112 false _ A74.out).mono ?_); rintro e w' ⟨rfl, ⟨nd, rfl⟩⟩; refine ⟨_, rfl, ?_⟩) | ((with_reducible refine gate_callee (f := 32) rfl ?_); refine goesL_ (some 127) rfl rfl Tryd.func32 (by kernel_rfl) rfl #[.string t149, .int .u8 109] rfl (by (try simp only [List.map_toArray, List.map_cons, List.map_nil]); first | done | rfl | (simp only [List.length_drop, List.length_take]; rfl)) ?_; (with_reducible refine (hoodwinkref08_has.calls kj59 t149 109 true _ A77.out).mono ?_); rintro e w' ⟨rfl, ⟨nd, rfl⟩⟩; refine ⟨_, rfl, ?_⟩))
                            go_ret
                            exact ⟨by first | rfl | (simp [errW_none, errW_some] <;> rfl) | (simp [*, errW_none, errW_some] <;> rfl), by repeat (first | (with_reducible first | exact HB.out | apply below_alloc | apply pw_below_drewN | apply below_drew1 | refine below_set ?_ GE147.out) | exact HB.out)⟩
                          · rw [if_neg c79] at H
                            have c79b0 : decide (0 ≤ (wrap64 (a0_4))) = false := decide_eq_false c79
                            clear c79
                            obtain rfl := Option.some.inj H
                            go_wp2_with (first | ((with_reducible refine gate_callee (f := 32) rfl ?_); refine goesL_ (some 104) rfl rfl Tryd.func32 (by kernel_rfl) rfl #[.string t149, .int .u8 110] rfl (by (try simp only [List.map_toArray, List.map_cons, List.map_nil]); first | done | rfl | (simp only [List.length_drop, List.length_take]; rfl)) ?_; (with_reducible refine (hoodwinkref08_has.calls kj59 t149 110 false _ A69.out).mono ?_); rintro e w' ⟨rfl, ⟨nd, rfl⟩⟩; refine ⟨_, rfl, ?_⟩) | ((with_reducible refine gate_callee (f := 32) rfl ?_); refine goesL_ (some 107) rfl rfl Tryd.func32 (by kernel_rfl) rfl #[.string t149, .int .u8 99] rfl (by (try simp only [List.map_toArray, List.map_cons, List.map_nil]); first | done | rfl | (simp only [List.length_drop, List.length_take]; rfl)) ?_; (with_reducible refine (hoodwinkref08_has.calls kj59 t149 99 false _ A71.out).mono ?_); rintro e w' ⟨rfl, ⟨nd, rfl⟩⟩; refine ⟨_, rfl, ?_⟩) | ((with_reducible refine gate_callee (f := 32) rfl ?_); refine goesL_ (some 117) rfl rfl Tryd.func32 (by kernel_rfl) rfl #[.string t149, .int .u8 112] rfl (by (try simp only [List.map_toArray, List.map_cons, List.map_nil]); first | done | rfl | (simp only [List.length_drop, List.length_take]; rfl)) ?_; (with_reducible refine (hoodwinkref08_has.calls kj59 t149 112 false _ A74.out).mono ?_); rintro e w' ⟨rfl, ⟨nd, rfl⟩⟩; refine ⟨_, rfl, ?_⟩) | ((with_reducible refine gate_callee (f := 32) rfl ?_); refine goesL_ (some 127) rfl rfl Tryd.func32 (by kernel_rfl) rfl #[.string t149, .int .u8 109] rfl (by (try simp only [List.map_toArray, List.map_cons, List.map_nil]); first | done | rfl | (simp only [List.length_drop, List.length_take]; rfl)) ?_; (with_reducible refine (hoodwinkref08_has.calls kj59 t149 109 true _ A77.out).mono ?_); rintro e w' ⟨rfl, ⟨nd, rfl⟩⟩; refine ⟨_, rfl, ?_⟩))
                            go_ret
                            exact ⟨by first | rfl | (simp [errW_none, errW_some] <;> rfl) | (simp [*, errW_none, errW_some] <;> rfl), by repeat (first | (with_reducible first | exact HB.out | apply below_alloc | apply pw_below_drewN | apply below_drew1 | refine below_set ?_ GE147.out) | exact HB.out)⟩
                        · replace c78 := Bool.eq_false_iff.mpr c78
                          subst c78
                          have H1 : ((hoodwinkref08_has.f kj59 t149 115).bind fun t163 => (if t163 = true then (some (decide ((wrap64 (a0_4)) > 0))) else (some ((wrap64 (a0_4)) == 0)))) = some r := by rw [if_neg (show ¬ (false = true) by decide)] at H; exact H
                          clear H
                          have H := H1
                          clear H1
                          replace H := Option.bind_eq_some_iff.mp H
                          obtain ⟨t163, A800, H⟩ := H
                          replace H : (if t163 = true then (some (decide ((wrap64 (a0_4)) > 0))) else (some ((wrap64 (a0_4)) == 0))) = some r := H
                          have A80 := Aside0.mk A800
                          clear A800
                          by_cases c81 : t163 = true
                          · subst c81
                            have H1 : (some (decide ((wrap64 (a0_4)) > 0))) = some r := by rw [if_pos rfl] at H; exact H
                            clear H
                            have H := H1
                            clear H1
                            obtain rfl := Option.some.inj H
                            go_wp2_with (first | ((with_reducible refine gate_callee (f := 32) rfl ?_); refine goesL_ (some 104) rfl rfl Tryd.func32 (by kernel_rfl) rfl #[.string t149, .int .u8 110] rfl (by (try simp only [List.map_toArray, List.map_cons, List.map_nil]); first | done | rfl | (simp only [List.length_drop, List.length_take]; rfl)) ?_; (with_reducible refine (hoodwinkref08_has.calls kj59 t149 110 false _ A69.out).mono ?_); rintro e w' ⟨rfl, ⟨nd, rfl⟩⟩; refine ⟨_, rfl, ?_⟩) | ((with_reducible refine gate_callee (f := 32) rfl ?_); refine goesL_ (some 107) rfl rfl Tryd.func32 (by kernel_rfl) rfl #[.string t149, .int .u8 99] rfl (by (try simp only [List.map_toArray, List.map_cons, List.map_nil]); first | done | rfl | (simp only [List.length_drop, List.length_take]; rfl)) ?_; (with_reducible refine (hoodwinkref08_has.calls kj59 t149 99 false _ A71.out).mono ?_); rintro e w' ⟨rfl, ⟨nd, rfl⟩⟩; refine ⟨_, rfl, ?_⟩) | ((with_reducible refine gate_callee (f := 32) rfl ?_); refine goesL_ (some 117) rfl rfl Tryd.func32 (by kernel_rfl) rfl #[.string t149, .int .u8 112] rfl (by (try simp only [List.map_toArray, List.map_cons, List.map_nil]); first | done | rfl | (simp only [List.length_drop, List.length_take]; rfl)) ?_; (with_reducible refine (hoodwinkref08_has.calls kj59 t149 112 false _ A74.out).mono ?_); rintro e w' ⟨rfl, ⟨nd, rfl⟩⟩; refine ⟨_, rfl, ?_⟩) | ((with_reducible refine gate_callee (f := 32) rfl ?_); refine goesL_ (some 127) rfl rfl Tryd.func32 (by kernel_rfl) rfl #[.string t149, .int .u8 109] rfl (by (try simp only [List.map_toArray, List.map_cons, List.map_nil]); first | done | rfl | (simp only [List.length_drop, List.length_take]; rfl)) ?_; (with_reducible refine (hoodwinkref08_has.calls kj59 t149 109 false _ A77.out).mono ?_); rintro e w' ⟨rfl, ⟨nd, rfl⟩⟩; refine ⟨_, rfl, ?_⟩) | ((with_reducible refine gate_callee (f := 32) rfl ?_); refine goesL_ (some 137) rfl rfl Tryd.func32 (by kernel_rfl) rfl #[.string t149, .int .u8 115] rfl (by (try simp only [List.map_toArray, List.map_cons, List.map_nil]); first | done | rfl | (simp only [List.length_drop, List.length_take]; rfl)) ?_; (with_reducible refine (hoodwinkref08_has.calls kj59 t149 115 true _ A80.out).mono ?_); rintro e w' ⟨rfl, ⟨nd, rfl⟩⟩; refine ⟨_, rfl, ?_⟩))
                            go_ret
                            exact ⟨by first | rfl | (simp [errW_none, errW_some] <;> rfl) | (simp [*, errW_none, errW_some] <;> rfl), by repeat (first | (with_reducible first | exact HB.out | apply below_alloc | apply pw_below_drewN | apply below_drew1 | refine below_set ?_ GE147.out) | exact HB.out)⟩
                          · replace c81 := Bool.eq_false_iff.mpr c81
                            subst c81
                            have H1 : (some ((wrap64 (a0_4)) == 0)) = some r := by rw [if_neg (show ¬ (false = true) by decide)] at H; exact H
                            clear H
                            have H := H1
                            clear H1
                            obtain rfl := Option.some.inj H
                            go_wp2_with (first | ((with_reducible refine gate_callee (f := 32) rfl ?_); refine goesL_ (some 104) rfl rfl Tryd.func32 (by kernel_rfl) rfl #[.string t149, .int .u8 110] rfl (by (try simp only [List.map_toArray, List.map_cons, List.map_nil]); first | done | rfl | (simp only [List.length_drop, List.length_take]; rfl)) ?_; (with_reducible refine (hoodwinkref08_has.calls kj59 t149 110 false _ A69.out).mono ?_); rintro e w' ⟨rfl, ⟨nd, rfl⟩⟩; refine ⟨_, rfl, ?_⟩) | ((with_reducible refine gate_callee (f := 32) rfl ?_); refine goesL_ (some 107) rfl rfl Tryd.func32 (by kernel_rfl) rfl #[.string t149, .int .u8 99] rfl (by (try simp only [List.map_toArray, List.map_cons, List.map_nil]); first | done | rfl | (simp only [List.length_drop, List.length_take]; rfl)) ?_; (with_reducible refine (hoodwinkref08_has.calls kj59 t149 99 false _ A71.out).mono ?_); rintro e w' ⟨rfl, ⟨nd, rfl⟩⟩; refine ⟨_, rfl, ?_⟩) | ((with_reducible refine gate_callee (f := 32) rfl ?_); refine goesL_ (some 117) rfl rfl Tryd.func32 (by kernel_rfl) rfl #[.string t149, .int .u8 112] rfl (by (try simp only [List.map_toArray, List.map_cons, List.map_nil]); first | done | rfl | (simp only [List.length_drop, List.length_take]; rfl)) ?_; (with_reducible refine (hoodwinkref08_has.calls kj59 t149 112 false _ A74.out).mono ?_); rintro e w' ⟨rfl, ⟨nd, rfl⟩⟩; refine ⟨_, rfl, ?_⟩) | ((with_reducible refine gate_callee (f := 32) rfl ?_); refine goesL_ (some 127) rfl rfl Tryd.func32 (by kernel_rfl) rfl #[.string t149, .int .u8 109] rfl (by (try simp only [List.map_toArray, List.map_cons, List.map_nil]); first | done | rfl | (simp only [List.length_drop, List.length_take]; rfl)) ?_; (with_reducible refine (hoodwinkref08_has.calls kj59 t149 109 false _ A77.out).mono ?_); rintro e w' ⟨rfl, ⟨nd, rfl⟩⟩; refine ⟨_, rfl, ?_⟩) | ((with_reducible refine gate_callee (f := 32) rfl ?_); refine goesL_ (some 137) rfl rfl Tryd.func32 (by kernel_rfl) rfl #[.string t149, .int .u8 115] rfl (by (try simp only [List.map_toArray, List.map_cons, List.map_nil]); first | done | rfl | (simp only [List.length_drop, List.length_take]; rfl)) ?_; (with_reducible refine (hoodwinkref08_has.calls kj59 t149 115 false _ A80.out).mono ?_); rintro e w' ⟨rfl, ⟨nd, rfl⟩⟩; refine ⟨_, rfl, ?_⟩))
                            go_ret
                            exact ⟨by first | rfl | (simp [errW_none, errW_some] <;> rfl) | (simp [*, errW_none, errW_some] <;> rfl), by repeat (first | (with_reducible first | exact HB.out | apply below_alloc | apply pw_below_drewN | apply below_drew1 | refine below_set ?_ GE147.out) | exact HB.out)⟩

/-! ### hoodwinkref08_Check: function 19 -/
def hoodwinkref08_Check.l0 : Nat → List (S29) → Int → Int → List (S29) → Int → Int → Option (Int)
  | 0, _, _, _, _, _, _ => none
  | k + 1, x0, x1, x2, x12, x13, x14 => if x14 < x13 then (if 0 ≤ x14 then (if x14 < (x12.length : Int) then ((hoodwinkref08_Right.f k ((rd_T29 x12 x14).f0) ((rd_T29 x12 x14).f1) ((rd_T29 x12 x14).f2) ((rd_T29 x12 x14).f3) ((rd_T29 x12 x14).f4) ((rd_T29 x12 x14).f5) (x0.length : Int) x1 x2).bind fun t166 => (if t166 = true then (hoodwinkref08_Check.l0 k x0 x1 x2 x12 x13 (wrap64 (x14 + 1))) else (some x14))) else (none)) else (none)) else (some (-1))
def hoodwinkref08_Check.f (k : Nat) (l0 : List (S29)) (a1 : Int) (a2 : Int) : Option (Int) := if (l0.length : Int) > 96 then (some 96) else (hoodwinkref08_Check.l0 k l0 a1 a2 l0 (l0.length : Int) 0)
theorem hoodwinkref08_Check.mono_l : ∀ k, (∀ y0 y1 y2 y3 y4 y5, LeO (hoodwinkref08_Check.l0 k y0 y1 y2 y3 y4 y5) (hoodwinkref08_Check.l0 (k + 1) y0 y1 y2 y3 y4 y5))
  | 0 => fun _ _ _ _ _ _ r h => by simp [hoodwinkref08_Check.l0] at h
  | k + 1 => by
    have ih0 := hoodwinkref08_Check.mono_l k
    · intro y0 y1 y2 y3 y4 y5
      unfold hoodwinkref08_Check.l0
      repeat' first
      | (with_reducible exact ih0 _ _ _ _ _ _)
      | (with_reducible exact hoodwinkref08_Right.mono _ _ _ _ _ _ _ _ _ _)
      | (with_reducible exact LeO.refl _)
      | (with_reducible exact LeO.none _)
      | (with_reducible refine LeO.ite ?_ ?_)
      | (with_reducible refine LeO.bind ?_ (fun _ => ?_))
      | exact ih0 _ _ _ _ _ _
      | exact hoodwinkref08_Right.mono _ _ _ _ _ _ _ _ _ _
      | exact LeO.none _
      | refine LeO.ite ?_ ?_
      | refine LeO.bind ?_ (fun _ => ?_)
theorem hoodwinkref08_Check.mono : ∀ a0 a1 a2 k, LeO (hoodwinkref08_Check.f k a0 a1 a2) (hoodwinkref08_Check.f (k + 1) a0 a1 a2) := by
  intro a0 a1 a2 k
  have ih0 := hoodwinkref08_Check.mono_l k
  unfold hoodwinkref08_Check.f
  repeat' first
      | (with_reducible exact ih0 _ _ _ _ _ _)
      | (with_reducible exact hoodwinkref08_Right.mono _ _ _ _ _ _ _ _ _ _)
      | (with_reducible exact LeO.refl _)
      | (with_reducible exact LeO.none _)
      | (with_reducible refine LeO.ite ?_ ?_)
      | (with_reducible refine LeO.bind ?_ (fun _ => ?_))
      | exact ih0 _ _ _ _ _ _
      | exact hoodwinkref08_Right.mono _ _ _ _ _ _ _ _ _ _
      | exact LeO.none _
      | refine LeO.ite ?_ ?_
      | refine LeO.bind ?_ (fun _ => ?_)
set_option maxHeartbeats 8000000 in
set_option maxRecDepth 100000 in
theorem hoodwinkref08_Check.calls (k : Nat) (A0 : Option Addr) (c0 : Nat) (l0 : List (S29)) (a1 : Int) (a2 : Int) (r : Int) (w : World) (hr0 : Kd.C k29 w A0 l0.length l0) (hc0 : l0.length ≤ c0) (h : hoodwinkref08_Check.f k l0 a1 a2 = some r) :
    Calls Tryd.prog 19 #[.slice A0 l0.length c0, .int .i64 a1, .int .i64 a2] w fun e w' => e = .returned (.int .i64 r) ∧ Below w.heap.size w w' := by
  have hu29 := Tryd.underlying29
  have HR0 := Aside0.mk hr0
  have HC0 := Aside0.mk hc0
  clear hr0 hc0
  have HB := Aside0.mk (Below.refl w.heap.size w)
  have H : (if (l0.length : Int) > 96 then (some 96) else (hoodwinkref08_Check.l0 k l0 a1 a2 l0 (l0.length : Int) 0)) = some r := h
  clear h
  by_cases c4 : (l0.length : Int) > 96
  · rw [if_pos c4] at H
    have c4b0 : decide (96 < (l0.length : Int)) = true := decide_eq_true c4
    have c4b1 : decide (96 < l0.length) = true := decide_eq_true (by omega)
    clear c4
    obtain rfl := Option.some.inj H
    go_enter Tryd.func19, Tryd.ntmps19
    go_wp2
    go_ret
    exact ⟨by first | rfl | (simp [errW_none, errW_some] <;> rfl) | (simp [*, errW_none, errW_some] <;> rfl), by repeat (first | (with_reducible first | exact HB.out | apply below_alloc | apply pw_below_drewN | apply below_drew1) | exact HB.out)⟩
  · rw [if_neg c4] at H
    have c4b0 : decide (96 < (l0.length : Int)) = false := decide_eq_false c4
    have c4b1 : decide (96 < l0.length) = false := decide_eq_false (by omega)
    clear c4
    have H' := Aside0.mk H
    clear H
    go_enter Tryd.func19, Tryd.ntmps19
    go_wp2
    go_loopg [14] k (fun kq v14 w' => ∃ (x14_1 : Int), v14 = .int .i64 x14_1 ∧ Aside0 (hoodwinkref08_Check.l0 kq l0 a1 a2 l0 (l0.length : Int) x14_1 = some r) ∧ Aside0 (kq ≤ k) ∧ Aside0 (Below w.heap.size w w'))
    case atStart => exact ⟨(0), (by first | rfl | (simp; done) | (simp [*]; done)), H', ⟨Nat.le_refl _⟩, ⟨by repeat (first | (with_reducible first | exact HB.out | apply below_alloc | apply pw_below_drewN | apply below_drew1) | exact HB.out)⟩⟩
    case round =>
      clear H'
      try clear c1
      try clear p2
      try clear c4
      try clear c4b0
      try clear c4b1
      obtain ⟨x14_1, rfl, HA, HK1, HB⟩ := hrel
      cases gk with
      | zero => exact absurd HA.out (by simp [hoodwinkref08_Check.l0])
      | succ k1 =>
        have H := HA.out
        clear HA
        simp only [hoodwinkref08_Check.l0] at H
        by_cases c5 : x14_1 < (l0.length : Int)
        · rw [if_pos c5] at H
          have c5b0 : decide (x14_1 < (l0.length : Int)) = true := decide_eq_true c5
          clear c5
          by_cases c6 : 0 ≤ x14_1
          · rw [if_pos c6] at H
            have c6b0 : decide (0 ≤ x14_1) = true := decide_eq_true c6
            clear c6
            by_cases c7 : x14_1 < (l0.length : Int)
            · rw [if_pos c7] at H
              have c7b0 : decide (x14_1 < (l0.length : Int)) = true := decide_eq_true c7
              clear c7
              replace H := Option.bind_eq_some_iff.mp H
              obtain ⟨t166, A80, H⟩ := H
              replace H : (if t166 = true then (hoodwinkref08_Check.l0 k1 l0 a1 a2 l0 (l0.length : Int) (wrap64 (x14_1 + 1))) else (some x14_1)) = some r := H
              have A8 := Aside0.mk A80
              clear A80
              by_cases c9 : t166 = true
              · subst c9
                have H1 : (hoodwinkref08_Check.l0 k1 l0 a1 a2 l0 (l0.length : Int) (wrap64 (x14_1 + 1))) = some r := by rw [if_pos rfl] at H; exact H
                clear H
                have H := H1
                clear H1
                have H' := Aside0.mk H
                clear H
                have p164 : 0 ≤ (x14_1 : Int) := of_decide_eq_true (by first | (with_reducible assumption) | assumption)
                have q164 : x14_1 < (l0.length : Int) := of_decide_eq_true (by first | (with_reducible assumption) | assumption)
                obtain ⟨ad164, e164, hx164_0, hx164_1, hx164_2, hx164_3, hx164_4, hx164_5⟩ := at_T29 HR0.out x14_1 p164 q164
                cases e164
                replace hx164_0 := (HB.out.cell (World.block_lt_of_cell? w _ hx164_0)).trans hx164_0
                replace hx164_1 := (HB.out.cell (World.block_lt_of_cell? w _ hx164_1)).trans hx164_1
                replace hx164_2 := (HB.out.cell (World.block_lt_of_cell? w _ hx164_2)).trans hx164_2
                replace hx164_3 := (HB.out.cell (World.block_lt_of_cell? w _ hx164_3)).trans hx164_3
                replace hx164_4 := (HB.out.cell (World.block_lt_of_cell? w _ hx164_4)).trans hx164_4
                replace hx164_5 := (HB.out.cell (World.block_lt_of_cell? w _ hx164_5)).trans hx164_5
                replace p164 := eq_true p164
                replace q164 := eq_true q164
                go_wp2_with (first | ((with_reducible refine gate_dst (N := 8) rfl ?_); refine box_event ?hg (N := 8) ?hd (cs := #[.int .u8 0, .int .u8 0, .int .u8 0, .int .u8 0, .int .i32 0, .int .u32 0]) (t := 29) ?hr ?_; (case hd => rfl); (case hg => rfl); (case hr => first | (go_simp; done) | (go_simp; rfl)); intro gb165 hg w10 hbox hb; have n0_ := Aside0.mk (below_step (by repeat (first | (with_reducible first | exact HB.out | apply below_alloc | apply pw_below_drewN | apply below_drew1) | exact HB.out)) hb); have n1_ := Aside0.mk (hbox); have n2_ := Aside0.mk ((by rw [hg]; exact (below_size (by repeat (first | (with_reducible first | exact HB.out | apply below_alloc | apply pw_below_drewN | apply below_drew1) | exact HB.out))) : w.heap.size ≤ gb165)); have n3_ := Aside0.mk ((by rw [hg]; exact (below_size (by repeat (first | (with_reducible first | exact HB.out | apply below_alloc | apply pw_below_drewN | apply below_drew1) | exact HB.out))) : w.heap.size ≤ gb165)); clear HB; have HB := n0_; have BK165 := n1_; have GW165 := n2_; have GE165 := n3_; clear n0_ n1_ n2_ n3_; clear hb hbox hg; have hcz11_0 : w10.cell? ⟨gb165, 0, none⟩ = some (.int .u8 0) := (blk_cell BK165.out 0).trans rfl; have hcz11_1 : w10.cell? ⟨gb165, 1, none⟩ = some (.int .u8 0) := (blk_cell BK165.out 1).trans rfl; have hcz11_2 : w10.cell? ⟨gb165, 2, none⟩ = some (.int .u8 0) := (blk_cell BK165.out 2).trans rfl; have hcz11_3 : w10.cell? ⟨gb165, 3, none⟩ = some (.int .u8 0) := (blk_cell BK165.out 3).trans rfl; have hcz11_4 : w10.cell? ⟨gb165, 4, none⟩ = some (.int .i32 0) := (blk_cell BK165.out 4).trans rfl; have hcz11_5 : w10.cell? ⟨gb165, 5, none⟩ = some (.int .u32 0) := (blk_cell BK165.out 5).trans rfl; have hfz11_0 := blk_frozen BK165.out 0; have hfz11_1 := blk_frozen BK165.out 1; have hfz11_2 := blk_frozen BK165.out 2; have hfz11_3 := blk_frozen BK165.out 3; have hfz11_4 := blk_frozen BK165.out 4; have hfz11_5 := blk_frozen BK165.out 5) | ((with_reducible refine gate_callee (f := 11) rfl ?_); refine goesL_ (some 24) rfl rfl Tryd.func11 (by kernel_rfl) rfl #[.agg #[.int .u8 ((rd_T29 l0 x14_1).f0), .int .u8 ((rd_T29 l0 x14_1).f1), .int .u8 ((rd_T29 l0 x14_1).f2), .int .u8 ((rd_T29 l0 x14_1).f3), .int .i32 ((rd_T29 l0 x14_1).f4), .int .u32 ((rd_T29 l0 x14_1).f5)], .int .i64 (l0.length : Int), .int .i64 a1, .int .i64 a2] rfl (by (try simp only [List.map_toArray, List.map_cons, List.map_nil]); first | done | rfl | (simp only [List.length_drop, List.length_take]; rfl)) ?_; (with_reducible refine (hoodwinkref08_Right.calls k1 ((rd_T29 l0 x14_1).f0) ((rd_T29 l0 x14_1).f1) ((rd_T29 l0 x14_1).f2) ((rd_T29 l0 x14_1).f3) ((rd_T29 l0 x14_1).f4) ((rd_T29 l0 x14_1).f5) (l0.length : Int) a1 a2 true _ A8.out).mono ?_); rintro e w12 ⟨rfl, hb⟩; refine ⟨_, rfl, ?_⟩; have n0_ := Aside0.mk (blk_below (g := gb165) (o := .cells #[.int .u8 ((rd_T29 l0 x14_1).f0), .int .u8 ((rd_T29 l0 x14_1).f1), .int .u8 ((rd_T29 l0 x14_1).f2), .int .u8 ((rd_T29 l0 x14_1).f3), .int .i32 ((rd_T29 l0 x14_1).f4), .int .u32 ((rd_T29 l0 x14_1).f5)] 29 (0, 0)) (by (with_reducible repeat (first | refine blk_drewN ?_ _ | refine blk_drew ?_ | refine blk_alloc ?_ _)); refine blk_put (cs := #[.int .u8 ((rd_T29 l0 x14_1).f0), .int .u8 ((rd_T29 l0 x14_1).f1), .int .u8 ((rd_T29 l0 x14_1).f2), .int .u8 ((rd_T29 l0 x14_1).f3), .int .i32 ((rd_T29 l0 x14_1).f4), .int .u32 0]) ?_ 5 _ rfl; (with_reducible repeat (first | refine blk_drewN ?_ _ | refine blk_drew ?_ | refine blk_alloc ?_ _)); refine blk_put (cs := #[.int .u8 ((rd_T29 l0 x14_1).f0), .int .u8 ((rd_T29 l0 x14_1).f1), .int .u8 ((rd_T29 l0 x14_1).f2), .int .u8 ((rd_T29 l0 x14_1).f3), .int .i32 0, .int .u32 0]) ?_ 4 _ rfl; (with_reducible repeat (first | refine blk_drewN ?_ _ | refine blk_drew ?_ | refine blk_alloc ?_ _)); refine blk_put (cs := #[.int .u8 ((rd_T29 l0 x14_1).f0), .int .u8 ((rd_T29 l0 x14_1).f1), .int .u8 ((rd_T29 l0 x14_1).f2), .int .u8 0, .int .i32 0, .int .u32 0]) ?_ 3 _ rfl; (with_reducible repeat (first | refine blk_drewN ?_ _ | refine blk_drew ?_ | refine blk_alloc ?_ _)); refine blk_put (cs := #[.int .u8 ((rd_T29 l0 x14_1).f0), .int .u8 ((rd_T29 l0 x14_1).f1), .int .u8 0, .int .u8 0, .int .i32 0, .int .u32 0]) ?_ 2 _ rfl; (with_reducible repeat (first | refine blk_drewN ?_ _ | refine blk_drew ?_ | refine blk_alloc ?_ _)); refine blk_put (cs := #[.int .u8 ((rd_T29 l0 x14_1).f0), .int .u8 0, .int .u8 0, .int .u8 0, .int .i32 0, .int .u32 0]) ?_ 1 _ rfl; (with_reducible repeat (first | refine blk_drewN ?_ _ | refine blk_drew ?_ | refine blk_alloc ?_ _)); refine blk_put (cs := #[.int .u8 0, .int .u8 0, .int .u8 0, .int .u8 0, .int .i32 0, .int .u32 0]) ?_ 0 _ rfl; (with_reducible repeat (first | refine blk_drewN ?_ _ | refine blk_drew ?_ | refine blk_alloc ?_ _)); exact BK165.out) hb); have n1_ := Aside0.mk (below_step (by repeat (first | (with_reducible first | exact HB.out | apply below_alloc | apply pw_below_drewN | apply below_drew1 | refine below_set ?_ GE165.out) | exact HB.out)) hb); clear BK165; clear HB; have BK165 := n0_; have HB := n1_; clear n0_ n1_; (try clear hb); (try clear hb2); (try clear hk); (try clear hi)))
                go_roundg k1
                case measure => have := HK1.out; omega
                case rel => exact ⟨(wrap64 (x14_1 + 1)), (by first | rfl | (simp; done) | (simp [*]; done)), H', ⟨by have := HK1.out; omega⟩, ⟨by repeat (first | (with_reducible first | exact HB.out | apply below_alloc | apply pw_below_drewN | apply below_drew1 | refine below_set ?_ GE165.out) | exact HB.out)⟩⟩
              · replace c9 := Bool.eq_false_iff.mpr c9
                subst c9
                have H1 : (some x14_1) = some r := by rw [if_neg (show ¬ (false = true) by decide)] at H; exact H
                clear H
                have H := H1
                clear H1
                obtain rfl := Option.some.inj H
                have p164 : 0 ≤ (x14_1 : Int) := of_decide_eq_true (by first | (with_reducible assumption) | assumption)
                have q164 : x14_1 < (l0.length : Int) := of_decide_eq_true (by first | (with_reducible assumption) | assumption)
                obtain ⟨ad164, e164, hx164_0, hx164_1, hx164_2, hx164_3, hx164_4, hx164_5⟩ := at_T29 HR0.out x14_1 p164 q164
                cases e164
                replace hx164_0 := (HB.out.cell (World.block_lt_of_cell? w _ hx164_0)).trans hx164_0
                replace hx164_1 := (HB.out.cell (World.block_lt_of_cell? w _ hx164_1)).trans hx164_1
                replace hx164_2 := (HB.out.cell (World.block_lt_of_cell? w _ hx164_2)).trans hx164_2
                replace hx164_3 := (HB.out.cell (World.block_lt_of_cell? w _ hx164_3)).trans hx164_3
                replace hx164_4 := (HB.out.cell (World.block_lt_of_cell? w _ hx164_4)).trans hx164_4
                replace hx164_5 := (HB.out.cell (World.block_lt_of_cell? w _ hx164_5)).trans hx164_5
                replace p164 := eq_true p164
                replace q164 := eq_true q164
                go_wp2_with (first | ((with_reducible refine gate_dst (N := 8) rfl ?_); refine box_event ?hg (N := 8) ?hd (cs := #[.int .u8 0, .int .u8 0, .int .u8 0, .int .u8 0, .int .i32 0, .int .u32 0]) (t := 29) ?hr ?_; (case hd => rfl); (case hg => rfl); (case hr => first | (go_simp; done) | (go_simp; rfl)); intro gb165 hg w13 hbox hb; have n0_ := Aside0.mk (below_step (by repeat (first | (with_reducible first | exact HB.out | apply below_alloc | apply pw_below_drewN | apply below_drew1) | exact HB.out)) hb); have n1_ := Aside0.mk (hbox); have n2_ := Aside0.mk ((by rw [hg]; exact (below_size (by repeat (first | (with_reducible first | exact HB.out | apply below_alloc | apply pw_below_drewN | apply below_drew1) | exact HB.out))) : w.heap.size ≤ gb165)); have n3_ := Aside0.mk ((by rw [hg]; exact (below_size (by repeat (first | (with_reducible first | exact HB.out | apply below_alloc | apply pw_below_drewN | apply below_drew1) | exact HB.out))) : w.heap.size ≤ gb165)); clear HB; have HB := n0_; have BK165 := n1_; have GW165 := n2_; have GE165 := n3_; clear n0_ n1_ n2_ n3_; clear hb hbox hg; have hcz14_0 : w13.cell? ⟨gb165, 0, none⟩ = some (.int .u8 0) := (blk_cell BK165.out 0).trans rfl; have hcz14_1 : w13.cell? ⟨gb165, 1, none⟩ = some (.int .u8 0) := (blk_cell BK165.out 1).trans rfl; have hcz14_2 : w13.cell? ⟨gb165, 2, none⟩ = some (.int .u8 0) := (blk_cell BK165.out 2).trans rfl; have hcz14_3 : w13.cell? ⟨gb165, 3, none⟩ = some (.int .u8 0) := (blk_cell BK165.out 3).trans rfl; have hcz14_4 : w13.cell? ⟨gb165, 4, none⟩ = some (.int .i32 0) := (blk_cell BK165.out 4).trans rfl; have hcz14_5 : w13.cell? ⟨gb165, 5, none⟩ = some (.int .u32 0) := (blk_cell BK165.out 5).trans rfl; have hfz14_0 := blk_frozen BK165.out 0; have hfz14_1 := blk_frozen BK165.out 1; have hfz14_2 := blk_frozen BK165.out 2; have hfz14_3 := blk_frozen BK165.out 3; have hfz14_4 := blk_frozen BK165.out 4; have hfz14_5 := blk_frozen BK165.out 5) | ((with_reducible refine gate_callee (f := 11) rfl ?_); refine goesL_ (some 24) rfl rfl Tryd.func11 (by kernel_rfl) rfl #[.agg #[.int .u8 ((rd_T29 l0 x14_1).f0), .int .u8 ((rd_T29 l0 x14_1).f1), .int .u8 ((rd_T29 l0 x14_1).f2), .int .u8 ((rd_T29 l0 x14_1).f3), .int .i32 ((rd_T29 l0 x14_1).f4), .int .u32 ((rd_T29 l0 x14_1).f5)], .int .i64 (l0.length : Int), .int .i64 a1, .int .i64 a2] rfl (by (try simp only [List.map_toArray, List.map_cons, List.map_nil]); first | done | rfl | (simp only [List.length_drop, List.length_take]; rfl)) ?_; (with_reducible refine (hoodwinkref08_Right.calls k1 ((rd_T29 l0 x14_1).f0) ((rd_T29 l0 x14_1).f1) ((rd_T29 l0 x14_1).f2) ((rd_T29 l0 x14_1).f3) ((rd_T29 l0 x14_1).f4) ((rd_T29 l0 x14_1).f5) (l0.length : Int) a1 a2 false _ A8.out).mono ?_); rintro e w15 ⟨rfl, hb⟩; refine ⟨_, rfl, ?_⟩; have n0_ := Aside0.mk (blk_below (g := gb165) (o := .cells #[.int .u8 ((rd_T29 l0 x14_1).f0), .int .u8 ((rd_T29 l0 x14_1).f1), .int .u8 ((rd_T29 l0 x14_1).f2), .int .u8 ((rd_T29 l0 x14_1).f3), .int .i32 ((rd_T29 l0 x14_1).f4), .int .u32 ((rd_T29 l0 x14_1).f5)] 29 (0, 0)) (by (with_reducible repeat (first | refine blk_drewN ?_ _ | refine blk_drew ?_ | refine blk_alloc ?_ _)); refine blk_put (cs := #[.int .u8 ((rd_T29 l0 x14_1).f0), .int .u8 ((rd_T29 l0 x14_1).f1), .int .u8 ((rd_T29 l0 x14_1).f2), .int .u8 ((rd_T29 l0 x14_1).f3), .int .i32 ((rd_T29 l0 x14_1).f4), .int .u32 0]) ?_ 5 _ rfl; (with_reducible repeat (first | refine blk_drewN ?_ _ | refine blk_drew ?_ | refine blk_alloc ?_ _)); refine blk_put (cs := #[.int .u8 ((rd_T29 l0 x14_1).f0), .int .u8 ((rd_T29 l0 x14_1).f1), .int .u8 ((rd_T29 l0 x14_1).f2), .int .u8 ((rd_T29 l0 x14_1).f3), .int .i32 0, .int .u32 0]) ?_ 4 _ rfl; (with_reducible repeat (first | refine blk_drewN ?_ _ | refine blk_drew ?_ | refine blk_alloc ?_ _)); refine blk_put (cs := #[.int .u8 ((rd_T29 l0 x14_1).f0), .int .u8 ((rd_T29 l0 x14_1).f1), .int .u8 ((rd_T29 l0 x14_1).f2), .int .u8 0, .int .i32 0, .int .u32 0]) ?_ 3 _ rfl; (with_reducible repeat (first | refine blk_drewN ?_ _ | refine blk_drew ?_ | refine blk_alloc ?_ _)); refine blk_put (cs := #[.int .u8 ((rd_T29 l0 x14_1).f0), .int .u8 ((rd_T29 l0 x14_1).f1), .int .u8 0, .int .u8 0, .int .i32 0, .int .u32 0]) ?_ 2 _ rfl; (with_reducible repeat (first | refine blk_drewN ?_ _ | refine blk_drew ?_ | refine blk_alloc ?_ _)); refine blk_put (cs := #[.int .u8 ((rd_T29 l0 x14_1).f0), .int .u8 0, .int .u8 0, .int .u8 0, .int .i32 0, .int .u32 0]) ?_ 1 _ rfl; (with_reducible repeat (first | refine blk_drewN ?_ _ | refine blk_drew ?_ | refine blk_alloc ?_ _)); refine blk_put (cs := #[.int .u8 0, .int .u8 0, .int .u8 0, .int .u8 0, .int .i32 0, .int .u32 0]) ?_ 0 _ rfl; (with_reducible repeat (first | refine blk_drewN ?_ _ | refine blk_drew ?_ | refine blk_alloc ?_ _)); exact BK165.out) hb); have n1_ := Aside0.mk (below_step (by repeat (first | (with_reducible first | exact HB.out | apply below_alloc | apply pw_below_drewN | apply below_drew1 | refine below_set ?_ GE165.out) | exact HB.out)) hb); clear BK165; clear HB; have BK165 := n0_; have HB := n1_; clear n0_ n1_; (try clear hb); (try clear hb2); (try clear hk); (try clear hi)))
                go_ret
                exact ⟨by first | rfl | (simp [errW_none, errW_some] <;> rfl) | (simp [*, errW_none, errW_some] <;> rfl), by repeat (first | (with_reducible first | exact HB.out | apply below_alloc | apply pw_below_drewN | apply below_drew1 | refine below_set ?_ GE165.out) | exact HB.out)⟩
            · rw [if_neg c7] at H
              exact absurd H (by simp)
          · rw [if_neg c6] at H
            exact absurd H (by simp)
        · rw [if_neg c5] at H
          have c5b0 : decide (x14_1 < (l0.length : Int)) = false := decide_eq_false c5
          clear c5
          obtain rfl := Option.some.inj H
          go_wp2
          go_ret
          exact ⟨by first | rfl | (simp [errW_none, errW_some] <;> rfl) | (simp [*, errW_none, errW_some] <;> rfl), by repeat (first | (with_reducible first | exact HB.out | apply below_alloc | apply pw_below_drewN | apply below_drew1) | exact HB.out)⟩

/-! ### code_Reals: function 20 -/
def code_Reals.l0 : Nat → Int → List (S25) → Int → Int → Option (Int)
  | 0, _, _, _, _ => none
  | k + 1, x3, x6, x7, x8 => if x8 < x7 then (if 0 ≤ x8 then (if x8 < (x6.length : Int) then (if ((rd_T25 x6 x8).f0) = 22 then (code_Reals.l0 k (wrap64 (x3 + 1)) x6 x7 (wrap64 (x8 + 1))) else (code_Reals.l0 k x3 x6 x7 (wrap64 (x8 + 1)))) else (none)) else (none)) else (some x3)
def code_Reals.f (k : Nat) (l0 : List (S25)) : Option (Int) := code_Reals.l0 k 0 l0 (l0.length : Int) 0
theorem code_Reals.mono_l : ∀ k, (∀ y0 y1 y2 y3, LeO (code_Reals.l0 k y0 y1 y2 y3) (code_Reals.l0 (k + 1) y0 y1 y2 y3))
  | 0 => fun _ _ _ _ r h => by simp [code_Reals.l0] at h
  | k + 1 => by
    have ih0 := code_Reals.mono_l k
    · intro y0 y1 y2 y3
      unfold code_Reals.l0
      repeat' first
      | (with_reducible exact ih0 _ _ _ _)
      | (with_reducible exact LeO.refl _)
      | (with_reducible exact LeO.none _)
      | (with_reducible refine LeO.ite ?_ ?_)
      | (with_reducible refine LeO.bind ?_ (fun _ => ?_))
      | exact ih0 _ _ _ _
      | exact LeO.none _
      | refine LeO.ite ?_ ?_
      | refine LeO.bind ?_ (fun _ => ?_)
theorem code_Reals.mono : ∀ a0 k, LeO (code_Reals.f k a0) (code_Reals.f (k + 1) a0) := by
  intro a0 k
  have ih0 := code_Reals.mono_l k
  unfold code_Reals.f
  repeat' first
      | (with_reducible exact ih0 _ _ _ _)
      | (with_reducible exact LeO.refl _)
      | (with_reducible exact LeO.none _)
      | (with_reducible refine LeO.ite ?_ ?_)
      | (with_reducible refine LeO.bind ?_ (fun _ => ?_))
      | exact ih0 _ _ _ _
      | exact LeO.none _
      | refine LeO.ite ?_ ?_
      | refine LeO.bind ?_ (fun _ => ?_)
set_option maxHeartbeats 8000000 in
set_option maxRecDepth 100000 in
theorem code_Reals.calls (k : Nat) (A0 : Option Addr) (c0 : Nat) (l0 : List (S25)) (r : Int) (w : World) (hr0 : Kd.C k25 w A0 l0.length l0) (hc0 : l0.length ≤ c0) (h : code_Reals.f k l0 = some r) :
    Calls Tryd.prog 20 #[.slice A0 l0.length c0] w fun e w' => e = .returned (.int .i64 r) ∧ Below w.heap.size w w' := by
  have hu25 := Tryd.underlying25
  have HR0 := Aside0.mk hr0
  have HC0 := Aside0.mk hc0
  clear hr0 hc0
  have HB := Aside0.mk (Below.refl w.heap.size w)
  have H : (code_Reals.l0 k 0 l0 (l0.length : Int) 0) = some r := h
  clear h
  have H' := Aside0.mk H
  clear H
  go_enter Tryd.func20, Tryd.ntmps20
  go_wp2
  go_loopg [3, 8] k (fun kq v3 v8 w' => ∃ (x3_1 : Int) (x8_1 : Int), v3 = .int .i64 x3_1 ∧ v8 = .int .i64 x8_1 ∧ Aside0 (code_Reals.l0 kq x3_1 l0 (l0.length : Int) x8_1 = some r) ∧ Aside0 (kq ≤ k) ∧ Aside0 (Below w.heap.size w w'))
  case atStart => exact ⟨(0), (0), (by first | rfl | (simp; done) | (simp [*]; done)), (by first | rfl | (simp; done) | (simp [*]; done)), H', ⟨Nat.le_refl _⟩, ⟨by repeat (first | (with_reducible first | exact HB.out | apply below_alloc | apply pw_below_drewN | apply below_drew1) | exact HB.out)⟩⟩
  case round =>
    clear H'
    obtain ⟨x3_1, x8_1, rfl, rfl, HA, HK1, HB⟩ := hrel
    cases gk with
    | zero => exact absurd HA.out (by simp [code_Reals.l0])
    | succ k1 =>
      have H := HA.out
      clear HA
      simp only [code_Reals.l0] at H
      by_cases c2 : x8_1 < (l0.length : Int)
      · rw [if_pos c2] at H
        have c2b0 : decide (x8_1 < (l0.length : Int)) = true := decide_eq_true c2
        clear c2
        by_cases c3 : 0 ≤ x8_1
        · rw [if_pos c3] at H
          have c3b0 : decide (0 ≤ x8_1) = true := decide_eq_true c3
          clear c3
          by_cases c4 : x8_1 < (l0.length : Int)
          · rw [if_pos c4] at H
            have c4b0 : decide (x8_1 < (l0.length : Int)) = true := decide_eq_true c4
            clear c4
            by_cases c5 : ((rd_T25 l0 x8_1).f0) = 22
            · rw [if_pos c5] at H
              have c5b0 : (((rd_T25 l0 x8_1).f0) == 22) = true := beq_iff_eq.mpr c5
              have c5b1 : (((rd_T25 l0 x8_1).f0) != 22) = false := bne_eq_false_iff_eq.mpr c5
              clear c5
              have H' := Aside0.mk H
              clear H
              have p167 : 0 ≤ (x8_1 : Int) := of_decide_eq_true (by first | (with_reducible assumption) | assumption)
              have q167 : x8_1 < (l0.length : Int) := of_decide_eq_true (by first | (with_reducible assumption) | assumption)
              obtain ⟨ad167, e167, hx167_0, hx167_1, hx167_2, hx167_3, hx167_4, hx167_5⟩ := at_T25 HR0.out x8_1 p167 q167
              cases e167
              replace hx167_0 := (HB.out.cell (World.block_lt_of_cell? w _ hx167_0)).trans hx167_0
              replace hx167_1 := (HB.out.cell (World.block_lt_of_cell? w _ hx167_1)).trans hx167_1
              replace hx167_2 := (HB.out.cell (World.block_lt_of_cell? w _ hx167_2)).trans hx167_2
              replace hx167_3 := (HB.out.cell (World.block_lt_of_cell? w _ hx167_3)).trans hx167_3
              replace hx167_4 := (HB.out.cell (World.block_lt_of_cell? w _ hx167_4)).trans hx167_4
              replace hx167_5 := (HB.out.cell (World.block_lt_of_cell? w _ hx167_5)).trans hx167_5
              replace p167 := eq_true p167
              replace q167 := eq_true q167
              go_wp2_with (first | ((with_reducible refine gate_dst (N := 5) rfl ?_); refine box_event ?hg (N := 5) ?hd (cs := #[.int .u8 0, .int .u8 0, .int .u8 0, .int .u8 0, .int .i32 0, .int .u32 0]) (t := 25) ?hr ?_; (case hd => rfl); (case hg => rfl); (case hr => first | (go_simp; done) | (go_simp; rfl)); intro gb168 hg w6 hbox hb; have n0_ := Aside0.mk (below_step (by repeat (first | (with_reducible first | exact HB.out | apply below_alloc | apply pw_below_drewN | apply below_drew1) | exact HB.out)) hb); have n1_ := Aside0.mk (hbox); have n2_ := Aside0.mk ((by rw [hg]; exact (below_size (by repeat (first | (with_reducible first | exact HB.out | apply below_alloc | apply pw_below_drewN | apply below_drew1) | exact HB.out))) : w.heap.size ≤ gb168)); have n3_ := Aside0.mk ((by rw [hg]; exact (below_size (by repeat (first | (with_reducible first | exact HB.out | apply below_alloc | apply pw_below_drewN | apply below_drew1) | exact HB.out))) : w.heap.size ≤ gb168)); clear HB; have HB := n0_; have BK168 := n1_; have GW168 := n2_; have GE168 := n3_; clear n0_ n1_ n2_ n3_; clear hb hbox hg; have hcz7_0 : w6.cell? ⟨gb168, 0, none⟩ = some (.int .u8 0) := (blk_cell BK168.out 0).trans rfl; have hcz7_1 : w6.cell? ⟨gb168, 1, none⟩ = some (.int .u8 0) := (blk_cell BK168.out 1).trans rfl; have hcz7_2 : w6.cell? ⟨gb168, 2, none⟩ = some (.int .u8 0) := (blk_cell BK168.out 2).trans rfl; have hcz7_3 : w6.cell? ⟨gb168, 3, none⟩ = some (.int .u8 0) := (blk_cell BK168.out 3).trans rfl; have hcz7_4 : w6.cell? ⟨gb168, 4, none⟩ = some (.int .i32 0) := (blk_cell BK168.out 4).trans rfl; have hcz7_5 : w6.cell? ⟨gb168, 5, none⟩ = some (.int .u32 0) := (blk_cell BK168.out 5).trans rfl; have hfz7_0 := blk_frozen BK168.out 0; have hfz7_1 := blk_frozen BK168.out 1; have hfz7_2 := blk_frozen BK168.out 2; have hfz7_3 := blk_frozen BK168.out 3; have hfz7_4 := blk_frozen BK168.out 4; have hfz7_5 := blk_frozen BK168.out 5))
              go_roundg k1
              case measure => have := HK1.out; omega
              case rel => exact ⟨(wrap64 (x3_1 + 1)), (wrap64 (x8_1 + 1)), (by first | rfl | (simp; done) | (simp [*]; done)), (by first | rfl | (simp; done) | (simp [*]; done)), H', ⟨by have := HK1.out; omega⟩, ⟨by repeat (first | (with_reducible first | exact HB.out | apply below_alloc | apply pw_below_drewN | apply below_drew1 | refine below_set ?_ GE168.out) | exact HB.out)⟩⟩
            · rw [if_neg c5] at H
              have c5b0 : (((rd_T25 l0 x8_1).f0) == 22) = false := beq_eq_false_iff_ne.mpr c5
              have c5b1 : (((rd_T25 l0 x8_1).f0) != 22) = true := bne_iff_ne.mpr c5
              have H' := Aside0.mk H
              clear H
              have p167 : 0 ≤ (x8_1 : Int) := of_decide_eq_true (by first | (with_reducible assumption) | assumption)
              have q167 : x8_1 < (l0.length : Int) := of_decide_eq_true (by first | (with_reducible assumption) | assumption)
              obtain ⟨ad167, e167, hx167_0, hx167_1, hx167_2, hx167_3, hx167_4, hx167_5⟩ := at_T25 HR0.out x8_1 p167 q167
              cases e167
              replace hx167_0 := (HB.out.cell (World.block_lt_of_cell? w _ hx167_0)).trans hx167_0
              replace hx167_1 := (HB.out.cell (World.block_lt_of_cell? w _ hx167_1)).trans hx167_1
              replace hx167_2 := (HB.out.cell (World.block_lt_of_cell? w _ hx167_2)).trans hx167_2
              replace hx167_3 := (HB.out.cell (World.block_lt_of_cell? w _ hx167_3)).trans hx167_3
              replace hx167_4 := (HB.out.cell (World.block_lt_of_cell? w _ hx167_4)).trans hx167_4
              replace hx167_5 := (HB.out.cell (World.block_lt_of_cell? w _ hx167_5)).trans hx167_5
              replace p167 := eq_true p167
              replace q167 := eq_true q167
              go_wp2_with (first | ((with_reducible refine gate_dst (N := 5) rfl ?_); refine box_event ?hg (N := 5) ?hd (cs := #[.int .u8 0, .int .u8 0, .int .u8 0, .int .u8 0, .int .i32 0, .int .u32 0]) (t := 25) ?hr ?_; (case hd => rfl); (case hg => rfl); (case hr => first | (go_simp; done) | (go_simp; rfl)); intro gb168 hg w8 hbox hb; have n0_ := Aside0.mk (below_step (by repeat (first | (with_reducible first | exact HB.out | apply below_alloc | apply pw_below_drewN | apply below_drew1) | exact HB.out)) hb); have n1_ := Aside0.mk (hbox); have n2_ := Aside0.mk ((by rw [hg]; exact (below_size (by repeat (first | (with_reducible first | exact HB.out | apply below_alloc | apply pw_below_drewN | apply below_drew1) | exact HB.out))) : w.heap.size ≤ gb168)); have n3_ := Aside0.mk ((by rw [hg]; exact (below_size (by repeat (first | (with_reducible first | exact HB.out | apply below_alloc | apply pw_below_drewN | apply below_drew1) | exact HB.out))) : w.heap.size ≤ gb168)); clear HB; have HB := n0_; have BK168 := n1_; have GW168 := n2_; have GE168 := n3_; clear n0_ n1_ n2_ n3_; clear hb hbox hg; have hcz9_0 : w8.cell? ⟨gb168, 0, none⟩ = some (.int .u8 0) := (blk_cell BK168.out 0).trans rfl; have hcz9_1 : w8.cell? ⟨gb168, 1, none⟩ = some (.int .u8 0) := (blk_cell BK168.out 1).trans rfl; have hcz9_2 : w8.cell? ⟨gb168, 2, none⟩ = some (.int .u8 0) := (blk_cell BK168.out 2).trans rfl; have hcz9_3 : w8.cell? ⟨gb168, 3, none⟩ = some (.int .u8 0) := (blk_cell BK168.out 3).trans rfl; have hcz9_4 : w8.cell? ⟨gb168, 4, none⟩ = some (.int .i32 0) := (blk_cell BK168.out 4).trans rfl; have hcz9_5 : w8.cell? ⟨gb168, 5, none⟩ = some (.int .u32 0) := (blk_cell BK168.out 5).trans rfl; have hfz9_0 := blk_frozen BK168.out 0; have hfz9_1 := blk_frozen BK168.out 1; have hfz9_2 := blk_frozen BK168.out 2; have hfz9_3 := blk_frozen BK168.out 3; have hfz9_4 := blk_frozen BK168.out 4; have hfz9_5 := blk_frozen BK168.out 5))
              go_roundg k1
              case measure => have := HK1.out; omega
              case rel => exact ⟨(x3_1), (wrap64 (x8_1 + 1)), (by first | rfl | (simp; done) | (simp [*]; done)), (by first | rfl | (simp; done) | (simp [*]; done)), H', ⟨by have := HK1.out; omega⟩, ⟨by repeat (first | (with_reducible first | exact HB.out | apply below_alloc | apply pw_below_drewN | apply below_drew1 | refine below_set ?_ GE168.out) | exact HB.out)⟩⟩
          · rw [if_neg c4] at H
            exact absurd H (by simp)
        · rw [if_neg c3] at H
          exact absurd H (by simp)
      · rw [if_neg c2] at H
        have c2b0 : decide (x8_1 < (l0.length : Int)) = false := decide_eq_false c2
        clear c2
        obtain rfl := Option.some.inj H
        go_wp2
        go_ret
        exact ⟨by first | rfl | (simp [errW_none, errW_some] <;> rfl) | (simp [*, errW_none, errW_some] <;> rfl), by repeat (first | (with_reducible first | exact HB.out | apply below_alloc | apply pw_below_drewN | apply below_drew1) | exact HB.out)⟩

end Go.Proofs.YthimlgkegobaeaaDoor
