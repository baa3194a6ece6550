/- The walks and plain facts behind the row of DeviceClones: part 1 of 4. -/
import Derived.Test.YtflajmgichdhhaaProg
import Derived.Test.YtflajmgichdhhaaWWords
import Derived.Test.YtflajmgichdhhaaWLast
import Derived.Test.YtflajmgichdhhaaWQPut
import Derived.Test.YtflajmgichdhhaaWApart
import Derived.Test.YtflajmgichdhhaaWArr
import Derived.Test.YtflajmgichdhhaaWZeros
import Derived.Test.YtflajmgichdhhaaWFoot
import Derived.Test.YtflajmgichdhhaaWKept
import Derived.Test.YtflajmgichdhhaaWShare
import Derived.Test.YtflajmgichdhhaaWN
import Derived.Test.YtflajmgichdhhaaWRepsOne
import Derived.Test.YtflajmgichdhhaaWNEv
import Derived.Test.YtflajmgichdhhaaWMore
import Derived.Below
import Derived.Deep.Draws
import Derived.Deep.AppendLies
import Derived.Maps.AppendAt
import Derived.OwnWalk
import Derived.Laws.BytesArg
import Derived.Laws.MakeOwn
import Derived.Laws.OwnMore
import Derived.Deep.OwnRows
import Derived.Tactics
import Derived.Lib.ConvBytes
import Derived.Laws.Slices
import Derived.WalkKit
import Derived.KernelRfl
import Derived.RowKit3
import Derived.Deep.LoopGhost
import Derived.Deep.QuietTactic
import Derived.BigQuiet
import Derived.WideLaws
import Derived.Deep.DeepCutAuto
import Derived.Deep.CutBlock
import Derived.Deep.RegionHeld3
import Derived.Laws.Rows
import Derived.Lib.AppendStr
import Derived.ArgAppend
import Derived.Laws.IdiomCopy
import Derived.OrdersHeld
import Derived.Laws.BitsLemmas
import Derived.RowKit
import Derived.Maps.OwnSet
import Derived.Laws.Strings
import Derived.Lib.SliceRun
import Derived.Shelf.Abstract
import Derived.Deep.CutRange
import Derived.SizedLaws
import Derived.Deep.Slices
import Derived.IntWalk
import Derived.Maps.RangeWalk
import Derived.ProofKit
import Derived.OpenShut
import Derived.ShutString
import Derived.ChangeOld
namespace Go.Proofs.Ytflajmgichdhhaa.PG
open Go.RowKit Go.Proofs.YtflajmgichdhhaaW.PrintWords Go.Proofs.YtflajmgichdhhaaW.PrintLast Go.Proofs.YtflajmgichdhhaaW.PrintMore
attribute [local go_sem] max2_int min2_int max_two min_two max_three min_three max_four min_four   -- for this text's walks alone
set_option linter.unusedVariables false
set_option linter.unusedSimpArgs false
def errW : Option Int → Value
  | none => .nilIface
  | some c => .iface 0 (.int .i64 c)
theorem errW_none : errW none = .nilIface := rfl
theorem errW_some (c : Int) : errW (some c) = .iface 0 (.int .i64 c) := rfl
theorem info3 : (Try.prog.info? 3).map (fun i => (i.zero, i.size, i.bytes)) = some (some (.int .i64 0), 1, 8) := by kernel_rfl
theorem info9 : (Try.prog.info? 9).map (fun i => (i.zero, i.size, i.bytes)) = some (some (.string ⟨#[]⟩), 1, 16) := by kernel_rfl
theorem info26 : (Try.prog.info? 26).map (fun i => (i.zero, i.size, i.bytes)) = some (some (.slice none 0 0), 1, 24) := by kernel_rfl
theorem info99 : (Try.prog.info? 99).map (fun i => (i.zero, i.size, i.bytes)) = some (some (.agg #[(.int .i64 0), (.int .i64 0), (.string ⟨#[]⟩)]), 3, 32) := by kernel_rfl
structure S35 where
  f0 : Int
  f1 : Int
def z35 : S35 := ⟨(0 : Int), (0 : Int)⟩
def k35 : Kd S35 := Kd.iso (Kd.pair (Kd.int .i64) (Kd.int .i64)) (fun x : S35 => (x.f0, x.f1))
theorem k35_open {w : World} {x : S35} {cs : List Value} (h : k35.K w x cs) : cs = [.int .i64 x.f0, .int .i64 x.f1] := by
 obtain ⟨_, _, rfl, rfl, rfl⟩ := h
 exact rfl
theorem k35_mk (w : World) (x : S35)  : k35.K w x [.int .i64 x.f0, .int .i64 x.f1] := ⟨[.int .i64 x.f0], [.int .i64 x.f1], rfl, rfl, rfl⟩
def rd_T35 (xs : List S35) (i : Int) : S35 := xs.getD i.toNat z35
def rd_L4 (xs : List (List Int)) (i : Int) : (List Int) := xs.getD i.toNat ([] : List Int)
structure S37 where
  f0 : Int
  f1 : S35
  f2 : Int
  f3 : ByteArray
  f4 : Int
  f5 : Int
  f6 : (List Int)
def z37 : S37 := ⟨(0 : Int), z35, (0 : Int), (⟨#[]⟩ : ByteArray), (0 : Int), (0 : Int), ([] : List Int)⟩
def k37 : Kd S37 := Kd.iso (Kd.pair (Kd.int .u8) (Kd.pair k35 (Kd.pair (Kd.int .i64) (Kd.pair Kd.string (Kd.pair (Kd.int .i64) (Kd.pair (Kd.int .u8) (Kd.slice 3 (Kd.int .i64)))))))) (fun x : S37 => (x.f0, x.f1, x.f2, x.f3, x.f4, x.f5, x.f6))
theorem k37_open {w : World} {x : S37} {cs : List Value} (h : k37.K w x cs) : ∃ A7 c7, cs = [.int .u8 x.f0, .int .i64 x.f1.f0, .int .i64 x.f1.f1, .int .i64 x.f2, .string x.f3, .int .i64 x.f4, .int .u8 x.f5, .slice A7 x.f6.length c7] ∧ x.f6.length ≤ c7 ∧ (Kd.int .i64).C w A7 x.f6.length x.f6 := by
 obtain ⟨_, _, rfl, rfl, ⟨_, _, rfl, s1, ⟨_, _, rfl, rfl, ⟨_, _, rfl, rfl, ⟨_, _, rfl, rfl, ⟨_, _, rfl, rfl, ⟨A7, c7, rfl, l7, g7⟩⟩⟩⟩⟩⟩⟩ := h
 obtain rfl := k35_open s1
 exact ⟨A7, c7, rfl, l7, g7⟩
theorem k37_mk (w : World) (x : S37) {A7 : Option Addr} {c7 : Nat} (l7 : x.f6.length ≤ c7) (g7 : (Kd.int .i64).C w A7 x.f6.length x.f6) : k37.K w x [.int .u8 x.f0, .int .i64 x.f1.f0, .int .i64 x.f1.f1, .int .i64 x.f2, .string x.f3, .int .i64 x.f4, .int .u8 x.f5, .slice A7 x.f6.length c7] := ⟨[.int .u8 x.f0], [.int .i64 x.f1.f0, .int .i64 x.f1.f1, .int .i64 x.f2, .string x.f3, .int .i64 x.f4, .int .u8 x.f5, .slice A7 x.f6.length c7], rfl, rfl, ⟨[.int .i64 x.f1.f0, .int .i64 x.f1.f1], [.int .i64 x.f2, .string x.f3, .int .i64 x.f4, .int .u8 x.f5, .slice A7 x.f6.length c7], rfl, (k35_mk w x.f1 ), ⟨[.int .i64 x.f2], [.string x.f3, .int .i64 x.f4, .int .u8 x.f5, .slice A7 x.f6.length c7], rfl, rfl, ⟨[.string x.f3], [.int .i64 x.f4, .int .u8 x.f5, .slice A7 x.f6.length c7], rfl, rfl, ⟨[.int .i64 x.f4], [.int .u8 x.f5, .slice A7 x.f6.length c7], rfl, rfl, ⟨[.int .u8 x.f5], [.slice A7 x.f6.length c7], rfl, rfl, ⟨A7, c7, rfl, l7, g7⟩⟩⟩⟩⟩⟩⟩
def rd_T37 (xs : List S37) (i : Int) : S37 := xs.getD i.toNat z37
theorem at_T37 {w : World} {A : Option Addr} {n : Nat} {xs : List S37} (h : Kd.C k37 w A n xs) (i : Int) (h0 : 0 ≤ i) (h1 : i < n) : ∃ ad A7 c7, A = some ad ∧ w.cell? (ad.add (i.toNat * 8)) = some (.int .u8 (rd_T37 xs i).f0) ∧ w.cell? ⟨(ad.add (i.toNat * 8)).block, (ad.add (i.toNat * 8)).off + 1, none⟩ = some (.int .i64 (rd_T37 xs i).f1.f0) ∧ w.cell? ⟨(ad.add (i.toNat * 8)).block, (ad.add (i.toNat * 8)).off + 2, none⟩ = some (.int .i64 (rd_T37 xs i).f1.f1) ∧ w.cell? ⟨(ad.add (i.toNat * 8)).block, (ad.add (i.toNat * 8)).off + 3, none⟩ = some (.int .i64 (rd_T37 xs i).f2) ∧ w.cell? ⟨(ad.add (i.toNat * 8)).block, (ad.add (i.toNat * 8)).off + 4, none⟩ = some (.string (rd_T37 xs i).f3) ∧ w.cell? ⟨(ad.add (i.toNat * 8)).block, (ad.add (i.toNat * 8)).off + 5, none⟩ = some (.int .i64 (rd_T37 xs i).f4) ∧ w.cell? ⟨(ad.add (i.toNat * 8)).block, (ad.add (i.toNat * 8)).off + 6, none⟩ = some (.int .u8 (rd_T37 xs i).f5) ∧ w.cell? ⟨(ad.add (i.toNat * 8)).block, (ad.add (i.toNat * 8)).off + 7, none⟩ = some (.slice A7 (rd_T37 xs i).f6.length c7) ∧ (rd_T37 xs i).f6.length ≤ c7 ∧ (Kd.int .i64).C w A7 (rd_T37 xs i).f6.length (rd_T37 xs i).f6 := by
 obtain ⟨ad, c, e, _, hK, hc0⟩ := Kd.C_get h z37 i h0 h1
 have hc : ∀ j u, c[j]? = some u → w.cell? (ad.add (i.toNat * 8 + j)) = some u := hc0
 obtain ⟨A7, c7, rfl, l7, g7⟩ := k37_open hK
 exact ⟨ad, A7, c7, e, hc 0 _ rfl, by rw [← add_field _ _ 1 (by omega)]; exact hc 1 _ rfl, by rw [← add_field _ _ 2 (by omega)]; exact hc 2 _ rfl, by rw [← add_field _ _ 3 (by omega)]; exact hc 3 _ rfl, by rw [← add_field _ _ 4 (by omega)]; exact hc 4 _ rfl, by rw [← add_field _ _ 5 (by omega)]; exact hc 5 _ rfl, by rw [← add_field _ _ 6 (by omega)]; exact hc 6 _ rfl, by rw [← add_field _ _ 7 (by omega)]; exact hc 7 _ rfl, l7, g7⟩
def rd_L6 (xs : List (List ByteArray)) (i : Int) : (List ByteArray) := xs.getD i.toNat ([] : List ByteArray)
structure S99 where
  f0 : Int
  f1 : Int
  f2 : ByteArray
def z99 : S99 := ⟨(0 : Int), (0 : Int), (⟨#[]⟩ : ByteArray)⟩
def k99 : Kd S99 := Kd.iso (Kd.pair (Kd.int .i64) (Kd.pair (Kd.int .i64) Kd.string)) (fun x : S99 => (x.f0, x.f1, x.f2))
theorem k99_open {w : World} {x : S99} {cs : List Value} (h : k99.K w x cs) : cs = [.int .i64 x.f0, .int .i64 x.f1, .string x.f2] := by
 obtain ⟨_, _, rfl, rfl, ⟨_, _, rfl, rfl, rfl⟩⟩ := h
 exact rfl
theorem k99_mk (w : World) (x : S99)  : k99.K w x [.int .i64 x.f0, .int .i64 x.f1, .string x.f2] := ⟨[.int .i64 x.f0], [.int .i64 x.f1, .string x.f2], rfl, rfl, ⟨[.int .i64 x.f1], [.string x.f2], rfl, rfl, rfl⟩⟩
theorem k99_mkM (w : World) (base : Nat) (ok : Nat → Prop) (x : S99)  : k99.M w base ok x [.int .i64 x.f0, .int .i64 x.f1, .string x.f2] := ⟨[.int .i64 x.f0], [.int .i64 x.f1, .string x.f2], rfl, rfl, ⟨[.int .i64 x.f1], [.string x.f2], rfl, rfl, rfl⟩⟩
def rd_T99 (xs : List S99) (i : Int) : S99 := xs.getD i.toNat z99
theorem at_T99 {w : World} {A : Option Addr} {n : Nat} {xs : List S99} (h : Kd.C k99 w A n xs) (i : Int) (h0 : 0 ≤ i) (h1 : i < n) : ∃ ad , A = some ad ∧ w.cell? (ad.add (i.toNat * 3)) = some (.int .i64 (rd_T99 xs i).f0) ∧ w.cell? ⟨(ad.add (i.toNat * 3)).block, (ad.add (i.toNat * 3)).off + 1, none⟩ = some (.int .i64 (rd_T99 xs i).f1) ∧ w.cell? ⟨(ad.add (i.toNat * 3)).block, (ad.add (i.toNat * 3)).off + 2, none⟩ = some (.string (rd_T99 xs i).f2) := by
 obtain ⟨ad, c, e, _, hK, hc0⟩ := Kd.C_get h z99 i h0 h1
 have hc : ∀ j u, c[j]? = some u → w.cell? (ad.add (i.toNat * 3 + j)) = some u := hc0
 obtain rfl := k99_open hK
 exact ⟨ad, e, hc 0 _ rfl, by rw [← add_field _ _ 1 (by omega)]; exact hc 1 _ rfl, by rw [← add_field _ _ 2 (by omega)]; exact hc 2 _ rfl⟩
end Go.Proofs.Ytflajmgichdhhaa.PG
namespace Go.Proofs.Ytflajmgichdhhaa.PG
open Go.RowKit Go.Proofs.YtflajmgichdhhaaW.PrintWords Go.Proofs.YtflajmgichdhhaaW.PrintLast Go.Proofs.YtflajmgichdhhaaW.PrintMore
set_option linter.unusedVariables false
theorem cells7 {w : World} {g : Nat} {t : TypeId} {a0 a1 a2 a3 a4 a5 a6 : Value} (h : w.heap[g]? = some (.cells #[a0, a1, a2, a3, a4, a5, a6] t (0, 0))) : w.cell? ⟨g, 0, none⟩ = some a0 ∧ w.cell? ⟨g, 1, none⟩ = some a1 ∧ w.cell? ⟨g, 2, none⟩ = some a2 ∧ w.cell? ⟨g, 3, none⟩ = some a3 ∧ w.cell? ⟨g, 4, none⟩ = some a4 ∧ w.cell? ⟨g, 5, none⟩ = some a5 ∧ w.cell? ⟨g, 6, none⟩ = some a6 :=
  ⟨by rw [blk_cell h]; rfl, by rw [blk_cell h]; rfl, by rw [blk_cell h]; rfl, by rw [blk_cell h]; rfl, by rw [blk_cell h]; rfl, by rw [blk_cell h]; rfl, by rw [blk_cell h]; rfl⟩
theorem cells8 {w : World} {g : Nat} {t : TypeId} {a0 a1 a2 a3 a4 a5 a6 a7 : Value} (h : w.heap[g]? = some (.cells #[a0, a1, a2, a3, a4, a5, a6, a7] t (0, 0))) : w.cell? ⟨g, 0, none⟩ = some a0 ∧ w.cell? ⟨g, 1, none⟩ = some a1 ∧ w.cell? ⟨g, 2, none⟩ = some a2 ∧ w.cell? ⟨g, 3, none⟩ = some a3 ∧ w.cell? ⟨g, 4, none⟩ = some a4 ∧ w.cell? ⟨g, 5, none⟩ = some a5 ∧ w.cell? ⟨g, 6, none⟩ = some a6 ∧ w.cell? ⟨g, 7, none⟩ = some a7 :=
  ⟨by rw [blk_cell h]; rfl, by rw [blk_cell h]; rfl, by rw [blk_cell h]; rfl, by rw [blk_cell h]; rfl, by rw [blk_cell h]; rfl, by rw [blk_cell h]; rfl, by rw [blk_cell h]; rfl, by rw [blk_cell h]; rfl⟩
theorem froz7 {w : World} {g : Nat} {t : TypeId} {cs : Array Value} (h : w.heap[g]? = some (.cells cs t (0, 0))) : w.frozen? ⟨g, 0, none⟩ = false ∧ w.frozen? ⟨g, 1, none⟩ = false ∧ w.frozen? ⟨g, 2, none⟩ = false ∧ w.frozen? ⟨g, 3, none⟩ = false ∧ w.frozen? ⟨g, 4, none⟩ = false ∧ w.frozen? ⟨g, 5, none⟩ = false ∧ w.frozen? ⟨g, 6, none⟩ = false :=
  ⟨blk_frozen h 0, blk_frozen h 1, blk_frozen h 2, blk_frozen h 3, blk_frozen h 4, blk_frozen h 5, blk_frozen h 6⟩
theorem hold2 {w w' : World} {p0 p1 : Addr} {u0 u1 : Value} (hb : Below w.heap.size w w') (h : w.cell? p0 = some u0 ∧ w.cell? p1 = some u1) : w'.cell? p0 = some u0 ∧ w'.cell? p1 = some u1 :=
  ⟨(hb.cell (World.block_lt_of_cell? _ _ h.1)).trans h.1, (hb.cell (World.block_lt_of_cell? _ _ h.2)).trans h.2⟩
theorem hold7 {w w' : World} {p0 p1 p2 p3 p4 p5 p6 : Addr} {u0 u1 u2 u3 u4 u5 u6 : Value} (hb : Below w.heap.size w w') (h : w.cell? p0 = some u0 ∧ w.cell? p1 = some u1 ∧ w.cell? p2 = some u2 ∧ w.cell? p3 = some u3 ∧ w.cell? p4 = some u4 ∧ w.cell? p5 = some u5 ∧ w.cell? p6 = some u6) : w'.cell? p0 = some u0 ∧ w'.cell? p1 = some u1 ∧ w'.cell? p2 = some u2 ∧ w'.cell? p3 = some u3 ∧ w'.cell? p4 = some u4 ∧ w'.cell? p5 = some u5 ∧ w'.cell? p6 = some u6 :=
  ⟨(hb.cell (World.block_lt_of_cell? _ _ h.1)).trans h.1, (hb.cell (World.block_lt_of_cell? _ _ h.2.1)).trans h.2.1, (hb.cell (World.block_lt_of_cell? _ _ h.2.2.1)).trans h.2.2.1, (hb.cell (World.block_lt_of_cell? _ _ h.2.2.2.1)).trans h.2.2.2.1, (hb.cell (World.block_lt_of_cell? _ _ h.2.2.2.2.1)).trans h.2.2.2.2.1, (hb.cell (World.block_lt_of_cell? _ _ h.2.2.2.2.2.1)).trans h.2.2.2.2.2.1, (hb.cell (World.block_lt_of_cell? _ _ h.2.2.2.2.2.2)).trans h.2.2.2.2.2.2⟩
theorem hold10 {w w' : World} {p0 p1 p2 p3 p4 p5 p6 p7 p8 p9 : Addr} {u0 u1 u2 u3 u4 u5 u6 u7 u8 u9 : Value} (hb : Below w.heap.size w w') (h : w.cell? p0 = some u0 ∧ w.cell? p1 = some u1 ∧ w.cell? p2 = some u2 ∧ w.cell? p3 = some u3 ∧ w.cell? p4 = some u4 ∧ w.cell? p5 = some u5 ∧ w.cell? p6 = some u6 ∧ w.cell? p7 = some u7 ∧ w.cell? p8 = some u8 ∧ w.cell? p9 = some u9) : w'.cell? p0 = some u0 ∧ w'.cell? p1 = some u1 ∧ w'.cell? p2 = some u2 ∧ w'.cell? p3 = some u3 ∧ w'.cell? p4 = some u4 ∧ w'.cell? p5 = some u5 ∧ w'.cell? p6 = some u6 ∧ w'.cell? p7 = some u7 ∧ w'.cell? p8 = some u8 ∧ w'.cell? p9 = some u9 :=
  ⟨(hb.cell (World.block_lt_of_cell? _ _ h.1)).trans h.1, (hb.cell (World.block_lt_of_cell? _ _ h.2.1)).trans h.2.1, (hb.cell (World.block_lt_of_cell? _ _ h.2.2.1)).trans h.2.2.1, (hb.cell (World.block_lt_of_cell? _ _ h.2.2.2.1)).trans h.2.2.2.1, (hb.cell (World.block_lt_of_cell? _ _ h.2.2.2.2.1)).trans h.2.2.2.2.1, (hb.cell (World.block_lt_of_cell? _ _ h.2.2.2.2.2.1)).trans h.2.2.2.2.2.1, (hb.cell (World.block_lt_of_cell? _ _ h.2.2.2.2.2.2.1)).trans h.2.2.2.2.2.2.1, (hb.cell (World.block_lt_of_cell? _ _ h.2.2.2.2.2.2.2.1)).trans h.2.2.2.2.2.2.2.1, (hb.cell (World.block_lt_of_cell? _ _ h.2.2.2.2.2.2.2.2.1)).trans h.2.2.2.2.2.2.2.2.1, (hb.cell (World.block_lt_of_cell? _ _ h.2.2.2.2.2.2.2.2.2)).trans h.2.2.2.2.2.2.2.2.2⟩
end Go.Proofs.Ytflajmgichdhhaa.PG
namespace Go.Proofs.Ytflajmgichdhhaa.PG
open Go.RowKit Go.Proofs.YtflajmgichdhhaaW.PrintWords Go.Proofs.YtflajmgichdhhaaW.PrintLast Go.Proofs.YtflajmgichdhhaaW.PrintMore
attribute [local go_sem] max2_int min2_int max_two min_two max_three min_three max_four min_four   -- for this text's walks alone
set_option linter.unusedVariables false
set_option linter.unusedSimpArgs false
def dasdref01_Padded.l0 : Nat → ByteArray → Int → Option (ByteArray)
  | 0, _, _ => none
  | k + 1, x0, x1 => if (x0.size : Int) < x1 then (if x0.size + 1 ≤ 9223372036854775807 then (dasdref01_Padded.l0 k (x0 ++ (⟨#[0]⟩ : ByteArray)) x1) else (none)) else (some x0)
def dasdref01_Padded.f (k : Nat) (a0 : ByteArray) (a1 : Int) : Option (ByteArray) := dasdref01_Padded.l0 k a0 a1
theorem dasdref01_Padded.mono_l : ∀ k, (∀ y0 y1, LeO (dasdref01_Padded.l0 k y0 y1) (dasdref01_Padded.l0 (k + 1) y0 y1))
 | 0 => fun _ _ r h => by simp [dasdref01_Padded.l0] at h
 | k + 1 => by
  have ih0 := dasdref01_Padded.mono_l k
  ·intro y0 y1
   unfold dasdref01_Padded.l0
   repeat' first
   | (with_reducible exact ih0 _ _)
   | (with_reducible exact LeO.refl _)
   | (with_reducible exact LeO.none _)
   | (with_reducible refine LeO.ite ?_ ?_)
   | (with_reducible refine LeO.bind ?_ (fun _ => ?_))
   | exact ih0 _ _
   | exact LeO.none _
   | refine LeO.ite ?_ ?_
   | refine LeO.bind ?_ (fun _ => ?_)
theorem dasdref01_Padded.mono : ∀ a0 a1 k, LeO (dasdref01_Padded.f k a0 a1) (dasdref01_Padded.f (k + 1) a0 a1) := by
 intro a0 a1 k
 have ih0 := dasdref01_Padded.mono_l k
 unfold dasdref01_Padded.f
 repeat' first
   | (with_reducible exact ih0 _ _)
   | (with_reducible exact LeO.refl _)
   | (with_reducible exact LeO.none _)
   | (with_reducible refine LeO.ite ?_ ?_)
   | (with_reducible refine LeO.bind ?_ (fun _ => ?_))
   | exact ih0 _ _
   | exact LeO.none _
   | refine LeO.ite ?_ ?_
   | refine LeO.bind ?_ (fun _ => ?_)
set_option maxHeartbeats 8000000 in
set_option maxRecDepth 100000 in
theorem dasdref01_Padded.calls (k : Nat) (a0 : ByteArray) (a1 : Int) (r : ByteArray) (w : World) (h : dasdref01_Padded.f k a0 a1 = some r) :
  Calls Try.prog 47 #[.string a0, .int .i64 a1] w fun e w' => e = .returned (.string r) ∧ Drawn0 w w' := by
 have H : (dasdref01_Padded.l0 k a0 a1) = some r := h
 clear h
 have H' := Aside0.mk H
 clear H
 go_enter Try.func47, Try.ntmps47
 go_wp2
 go_loopg [0] k (fun kq v0 w' => ∃ (x0_1 : ByteArray), v0 = .string x0_1 ∧ Aside0 (dasdref01_Padded.l0 kq x0_1 a1 = some r) ∧ Aside0 (kq ≤ k) ∧ Drawn0 w w')
 case atStart => exact ⟨(a0), (by first | rfl | (simp; done) | (simp [*]; done)), H', ⟨Nat.le_refl _⟩, by repeat (first | exact Drawn0.refl _ | apply Drawn0.step)⟩
 case round =>
  clear H'
  try clear p2
  obtain ⟨x0_1, rfl, HA, HK1, ⟨m1, rfl⟩⟩ := hrel
  cases gk with
  | zero => exact absurd HA.out (by simp [dasdref01_Padded.l0])
  | succ k1 =>
   have H := HA.out
   clear HA
   simp only [dasdref01_Padded.l0] at H
   by_cases c3 : (x0_1.size : Int) < a1
   ·rw [if_pos c3] at H
    have c3b0 : decide ((x0_1.size : Int) < a1) = true := decide_eq_true c3
    clear c3
    by_cases c4 : x0_1.size + 1 ≤ 9223372036854775807
    ·rw [if_pos c4] at H
     have c4b0 := eq_true c4
     have c4b1 : decide (x0_1.size + 1 ≤ 9223372036854775807) = true := decide_eq_true c4
     try have c4b2 : (9223372036854775807 < x0_1.size + 1) = False := eq_false (Nat.not_lt.2 c4)
     have H' := Aside0.mk H
     clear H
     go_wp2
     go_roundg k1
     case measure => have := HK1.out; omega
     case rel => exact ⟨(x0_1 ++ (⟨#[0]⟩ : ByteArray)), (by first | rfl | (simp; done) | (simp [*]; done)), H', ⟨by have := HK1.out; omega⟩, by repeat (first | exact Drawn0.refl _ | apply Drawn0.step)⟩
    ·rw [if_neg c4] at H
     exact absurd H (by simp)
   ·rw [if_neg c3] at H
    have c3b0 : decide ((x0_1.size : Int) < a1) = false := decide_eq_false c3
    clear c3
    obtain rfl := Option.some.inj H
    go_wp2
    go_ret
    exact ⟨by first | rfl | (simp; done) | (simp [*]; done), by repeat (first | exact Drawn0.refl _ | apply Drawn0.step)⟩
def dasdref03_Full.f (k : Nat) (a0 : ByteArray) : Option (ByteArray) := if (a0.size : Int) > 140 then (if 0 ≤ 140 then (if 140 ≤ (a0.size : Int) then ((dasdref01_Padded.f k (a0.extract 0 140) 140).bind fun t101 => (some t101)) else (none)) else (none)) else ((dasdref01_Padded.f k a0 140).bind fun t102 => (some t102))
theorem dasdref03_Full.mono : ∀ a0 k, LeO (dasdref03_Full.f k a0) (dasdref03_Full.f (k + 1) a0) := by
 intro a0 k
 unfold dasdref03_Full.f
 repeat' first
   | (with_reducible exact dasdref01_Padded.mono _ _ _)
   | (with_reducible exact LeO.refl _)
   | (with_reducible exact LeO.none _)
   | (with_reducible refine LeO.ite ?_ ?_)
   | (with_reducible refine LeO.bind ?_ (fun _ => ?_))
   | exact dasdref01_Padded.mono _ _ _
   | exact LeO.none _
   | refine LeO.ite ?_ ?_
   | refine LeO.bind ?_ (fun _ => ?_)
set_option maxHeartbeats 8000000 in
set_option maxRecDepth 100000 in
theorem dasdref03_Full.calls (k : Nat) (a0 : ByteArray) (r : ByteArray) (w : World) (h : dasdref03_Full.f k a0 = some r) :
  Calls Try.prog 19 #[.string a0] w fun e w' => e = .returned (.string r) ∧ Drawn0 w w' := by
 have H : (if (a0.size : Int) > 140 then (if 0 ≤ 140 then (if 140 ≤ (a0.size : Int) then ((dasdref01_Padded.f k (a0.extract 0 140) 140).bind fun t101 => (some t101)) else (none)) else (none)) else ((dasdref01_Padded.f k a0 140).bind fun t102 => (some t102))) = some r := h
 clear h
 by_cases c2 : (a0.size : Int) > 140
 ·rw [if_pos c2] at H
  have c2b0 : decide (140 < (a0.size : Int)) = true := decide_eq_true c2
  have c2b1 : decide (140 < a0.size) = true := decide_eq_true (by omega)
  clear c2
  by_cases c3 : 0 ≤ 140
  ·rw [if_pos c3] at H
   have c3b0 := eq_true c3
   have c3b1 : decide (0 ≤ 140) = true := decide_eq_true c3
   clear c3
   by_cases c4 : 140 ≤ (a0.size : Int)
   ·rw [if_pos c4] at H
    have c4b0 := eq_true c4
    have c4b1 : decide (140 ≤ (a0.size : Int)) = true := decide_eq_true c4
    clear c4
    replace H := Option.bind_eq_some_iff.mp H
    obtain ⟨t101, A50, H⟩ := H
    replace H : (some t101) = some r := H
    have A5 := Aside0.mk A50
    clear A50
    obtain rfl := Option.some.inj H
    go_enter Try.func19, Try.ntmps19
    go_wp2_with (first | ((with_reducible refine gate_callee (f := 47) rfl ?_); refine goesL_ (some 9) rfl rfl Try.func47 (by kernel_rfl) rfl #[.string (a0.extract 0 140), .int .i64 140] rfl (by (try simp only [List.map_toArray, List.map_cons, List.map_nil]); first | done | rfl | (simp only [List.length_drop, List.length_take]; rfl)) ?_; (with_reducible refine (dasdref01_Padded.calls k (a0.extract 0 140) 140 t101 _ A5.out).mono ?_); rintro e w' ⟨rfl, ⟨nd, rfl⟩⟩; refine ⟨_, rfl, ?_⟩))
    go_ret
    exact ⟨by first | rfl | (simp; done) | (simp [*]; done), by repeat (first | exact Drawn0.refl _ | apply Drawn0.step)⟩
   ·rw [if_neg c4] at H
    exact absurd H (by simp)
  ·rw [if_neg c3] at H
   exact absurd H (by simp)
 ·rw [if_neg c2] at H
  have c2b0 : decide (140 < (a0.size : Int)) = false := decide_eq_false c2
  have c2b1 : decide (140 < a0.size) = false := decide_eq_false (by omega)
  clear c2
  replace H := Option.bind_eq_some_iff.mp H
  obtain ⟨t102, A60, H⟩ := H
  replace H : (some t102) = some r := H
  have A6 := Aside0.mk A60
  clear A60
  obtain rfl := Option.some.inj H
  go_enter Try.func19, Try.ntmps19
  go_wp2_with (first | ((with_reducible refine gate_callee (f := 47) rfl ?_); refine goesL_ (some 9) rfl rfl Try.func47 (by kernel_rfl) rfl #[.string a0, .int .i64 140] rfl (by (try simp only [List.map_toArray, List.map_cons, List.map_nil]); first | done | rfl | (simp only [List.length_drop, List.length_take]; rfl)) ?_; (with_reducible refine (dasdref01_Padded.calls k a0 140 t102 _ A6.out).mono ?_); rintro e w' ⟨rfl, ⟨nd, rfl⟩⟩; refine ⟨_, rfl, ?_⟩))
  go_ret
  exact ⟨by first | rfl | (simp; done) | (simp [*]; done), by repeat (first | exact Drawn0.refl _ | apply Drawn0.step)⟩
def device_plain.f (a0_0 : Int) (a0_1 : Int) : Option (Bool) := if a0_0 ≥ 1 then (if a0_0 ≤ 4 then (if a0_1 ≥ 0 then (some (decide (a0_1 ≤ 1099511627776))) else (some false)) else (some false)) else (some false)
set_option maxHeartbeats 8000000 in
set_option maxRecDepth 100000 in
theorem device_plain.calls (a0_0 : Int) (a0_1 : Int) (r : Bool) (w : World) (h : device_plain.f a0_0 a0_1 = some r) :
  Calls Try.prog 48 #[.agg #[.int .i64 a0_0, .int .i64 a0_1]] w fun e w' => e = .returned (.bool r) ∧ Below w.heap.size w w' := by
 have hu35 := Try.underlying35
 have HB := Aside0.mk (Below.refl w.heap.size w)
 have H : (if a0_0 ≥ 1 then (if a0_0 ≤ 4 then (if a0_1 ≥ 0 then (some (decide (a0_1 ≤ 1099511627776))) else (some false)) else (some false)) else (some false)) = some r := h
 clear h
 by_cases c2 : a0_0 ≥ 1
 ·rw [if_pos c2] at H
  have c2b0 : decide (1 ≤ a0_0) = true := decide_eq_true c2
  clear c2
  by_cases c3 : a0_0 ≤ 4
  ·rw [if_pos c3] at H
   have c3b0 : decide (a0_0 ≤ 4) = true := decide_eq_true c3
   clear c3
   by_cases c4 : a0_1 ≥ 0
   ·rw [if_pos c4] at H
    have c4b0 : decide (0 ≤ a0_1) = true := decide_eq_true c4
    clear c4
    obtain rfl := Option.some.inj H
    go_enter Try.func48, Try.ntmps48
    go_wp2_with (first | ((with_reducible refine gate_dst (N := 1) rfl ?_); refine box_event ?hg (N := 1) ?hd (cs := #[.int .i64 a0_0, .int .i64 a0_1]) (t := 35) ?hr ?_; (case hd => rfl); (case hg => rfl); (case hr => first | (go_simp; done) | (go_simp; rfl)); intro gb103 hg w5 hbox hb; have n0_ := Aside0.mk (below_step (by repeat (first | (with_reducible first | exact HB.out | apply below_alloc | apply pw_below_drewN | apply below_drew1) | exact HB.out)) hb); have n1_ := Aside0.mk (hbox); have n2_ := Aside0.mk ((by rw [hg]; exact (below_size (by repeat (first | (with_reducible first | exact HB.out | apply below_alloc | apply pw_below_drewN | apply below_drew1) | exact HB.out))) : w.heap.size ≤ gb103)); have n3_ := Aside0.mk ((by rw [hg]; exact (below_size (by repeat (first | (with_reducible first | exact HB.out | apply below_alloc | apply pw_below_drewN | apply below_drew1) | exact HB.out))) : w.heap.size ≤ gb103)); clear HB; have HB := n0_; have BK103 := n1_; have GW103 := n2_; have GE103 := n3_; clear n0_ n1_ n2_ n3_; clear hb hbox hg; have hcz6_0 : w5.cell? ⟨gb103, 0, none⟩ = some (.int .i64 a0_0) := (blk_cell BK103.out 0).trans rfl; have hcz6_1 : w5.cell? ⟨gb103, 1, none⟩ = some (.int .i64 a0_1) := (blk_cell BK103.out 1).trans rfl; have hfz6_0 := blk_frozen BK103.out 0; have hfz6_1 := blk_frozen BK103.out 1))
    go_ret
    exact ⟨by first | rfl | (simp [errW_none, errW_some] <;> rfl) | (simp [*, errW_none, errW_some] <;> rfl), by repeat (first | (with_reducible first | exact HB.out | apply below_alloc | apply pw_below_drewN | apply below_drew1 | refine below_set ?_ GE103.out) | exact HB.out)⟩
   ·rw [if_neg c4] at H
    have c4b0 : decide (0 ≤ a0_1) = false := decide_eq_false c4
    clear c4
    obtain rfl := Option.some.inj H
    go_enter Try.func48, Try.ntmps48
    go_wp2_with (first | ((with_reducible refine gate_dst (N := 1) rfl ?_); refine box_event ?hg (N := 1) ?hd (cs := #[.int .i64 a0_0, .int .i64 a0_1]) (t := 35) ?hr ?_; (case hd => rfl); (case hg => rfl); (case hr => first | (go_simp; done) | (go_simp; rfl)); intro gb103 hg w7 hbox hb; have n0_ := Aside0.mk (below_step (by repeat (first | (with_reducible first | exact HB.out | apply below_alloc | apply pw_below_drewN | apply below_drew1) | exact HB.out)) hb); have n1_ := Aside0.mk (hbox); have n2_ := Aside0.mk ((by rw [hg]; exact (below_size (by repeat (first | (with_reducible first | exact HB.out | apply below_alloc | apply pw_below_drewN | apply below_drew1) | exact HB.out))) : w.heap.size ≤ gb103)); have n3_ := Aside0.mk ((by rw [hg]; exact (below_size (by repeat (first | (with_reducible first | exact HB.out | apply below_alloc | apply pw_below_drewN | apply below_drew1) | exact HB.out))) : w.heap.size ≤ gb103)); clear HB; have HB := n0_; have BK103 := n1_; have GW103 := n2_; have GE103 := n3_; clear n0_ n1_ n2_ n3_; clear hb hbox hg; have hcz8_0 : w7.cell? ⟨gb103, 0, none⟩ = some (.int .i64 a0_0) := (blk_cell BK103.out 0).trans rfl; have hcz8_1 : w7.cell? ⟨gb103, 1, none⟩ = some (.int .i64 a0_1) := (blk_cell BK103.out 1).trans rfl; have hfz8_0 := blk_frozen BK103.out 0; have hfz8_1 := blk_frozen BK103.out 1))
    go_ret
    exact ⟨by first | rfl | (simp [errW_none, errW_some] <;> rfl) | (simp [*, errW_none, errW_some] <;> rfl), by repeat (first | (with_reducible first | exact HB.out | apply below_alloc | apply pw_below_drewN | apply below_drew1 | refine below_set ?_ GE103.out) | exact HB.out)⟩
  ·rw [if_neg c3] at H
   have c3b0 : decide (a0_0 ≤ 4) = false := decide_eq_false c3
   clear c3
   obtain rfl := Option.some.inj H
   go_enter Try.func48, Try.ntmps48
   go_wp2_with (first | ((with_reducible refine gate_dst (N := 1) rfl ?_); refine box_event ?hg (N := 1) ?hd (cs := #[.int .i64 a0_0, .int .i64 a0_1]) (t := 35) ?hr ?_; (case hd => rfl); (case hg => rfl); (case hr => first | (go_simp; done) | (go_simp; rfl)); intro gb103 hg w9 hbox hb; have n0_ := Aside0.mk (below_step (by repeat (first | (with_reducible first | exact HB.out | apply below_alloc | apply pw_below_drewN | apply below_drew1) | exact HB.out)) hb); have n1_ := Aside0.mk (hbox); have n2_ := Aside0.mk ((by rw [hg]; exact (below_size (by repeat (first | (with_reducible first | exact HB.out | apply below_alloc | apply pw_below_drewN | apply below_drew1) | exact HB.out))) : w.heap.size ≤ gb103)); have n3_ := Aside0.mk ((by rw [hg]; exact (below_size (by repeat (first | (with_reducible first | exact HB.out | apply below_alloc | apply pw_below_drewN | apply below_drew1) | exact HB.out))) : w.heap.size ≤ gb103)); clear HB; have HB := n0_; have BK103 := n1_; have GW103 := n2_; have GE103 := n3_; clear n0_ n1_ n2_ n3_; clear hb hbox hg; have hcz10_0 : w9.cell? ⟨gb103, 0, none⟩ = some (.int .i64 a0_0) := (blk_cell BK103.out 0).trans rfl; have hcz10_1 : w9.cell? ⟨gb103, 1, none⟩ = some (.int .i64 a0_1) := (blk_cell BK103.out 1).trans rfl; have hfz10_0 := blk_frozen BK103.out 0; have hfz10_1 := blk_frozen BK103.out 1))
   go_ret
   exact ⟨by first | rfl | (simp [errW_none, errW_some] <;> rfl) | (simp [*, errW_none, errW_some] <;> rfl), by repeat (first | (with_reducible first | exact HB.out | apply below_alloc | apply pw_below_drewN | apply below_drew1 | refine below_set ?_ GE103.out) | exact HB.out)⟩
 ·rw [if_neg c2] at H
  have c2b0 : decide (1 ≤ a0_0) = false := decide_eq_false c2
  clear c2
  obtain rfl := Option.some.inj H
  go_enter Try.func48, Try.ntmps48
  go_wp2_with (first | ((with_reducible refine gate_dst (N := 1) rfl ?_); refine box_event ?hg (N := 1) ?hd (cs := #[.int .i64 a0_0, .int .i64 a0_1]) (t := 35) ?hr ?_; (case hd => rfl); (case hg => rfl); (case hr => first | (go_simp; done) | (go_simp; rfl)); intro gb103 hg w11 hbox hb; have n0_ := Aside0.mk (below_step (by repeat (first | (with_reducible first | exact HB.out | apply below_alloc | apply pw_below_drewN | apply below_drew1) | exact HB.out)) hb); have n1_ := Aside0.mk (hbox); have n2_ := Aside0.mk ((by rw [hg]; exact (below_size (by repeat (first | (with_reducible first | exact HB.out | apply below_alloc | apply pw_below_drewN | apply below_drew1) | exact HB.out))) : w.heap.size ≤ gb103)); have n3_ := Aside0.mk ((by rw [hg]; exact (below_size (by repeat (first | (with_reducible first | exact HB.out | apply below_alloc | apply pw_below_drewN | apply below_drew1) | exact HB.out))) : w.heap.size ≤ gb103)); clear HB; have HB := n0_; have BK103 := n1_; have GW103 := n2_; have GE103 := n3_; clear n0_ n1_ n2_ n3_; clear hb hbox hg; have hcz12_0 : w11.cell? ⟨gb103, 0, none⟩ = some (.int .i64 a0_0) := (blk_cell BK103.out 0).trans rfl; have hcz12_1 : w11.cell? ⟨gb103, 1, none⟩ = some (.int .i64 a0_1) := (blk_cell BK103.out 1).trans rfl; have hfz12_0 := blk_frozen BK103.out 0; have hfz12_1 := blk_frozen BK103.out 1))
  go_ret
  exact ⟨by first | rfl | (simp [errW_none, errW_some] <;> rfl) | (simp [*, errW_none, errW_some] <;> rfl), by repeat (first | (with_reducible first | exact HB.out | apply below_alloc | apply pw_below_drewN | apply below_drew1 | refine below_set ?_ GE103.out) | exact HB.out)⟩
def dasdref03_Few.l0 : Nat → List (S37) → Int → Int → Option (Bool)
  | 0, _, _, _ => none
  | k + 1, x0, x1, x5 => if x5 < (x0.length : Int) then (if 0 ≤ x5 then (if (((rd_T37 x0 x5).f3).size : Int) > 300 then (some false) else (if (((rd_T37 x0 x5).f6).length : Int) > 100 then (some false) else (dasdref03_Few.l0 k x0 x1 (wrap64 (x5 + 1))))) else (none)) else (some (decide ((x0.length : Int) ≤ x1)))
def dasdref03_Few.f (k : Nat) (l0 : List (S37)) (a1 : Int) : Option (Bool) := dasdref03_Few.l0 k l0 a1 0
theorem dasdref03_Few.mono_l : ∀ k, (∀ y0 y1 y2, LeO (dasdref03_Few.l0 k y0 y1 y2) (dasdref03_Few.l0 (k + 1) y0 y1 y2))
 | 0 => fun _ _ _ r h => by simp [dasdref03_Few.l0] at h
 | k + 1 => by
  have ih0 := dasdref03_Few.mono_l k
  ·intro y0 y1 y2
   unfold dasdref03_Few.l0
   repeat' first
   | (with_reducible exact ih0 _ _ _)
   | (with_reducible exact LeO.refl _)
   | (with_reducible exact LeO.none _)
   | (with_reducible refine LeO.ite ?_ ?_)
   | (with_reducible refine LeO.bind ?_ (fun _ => ?_))
   | exact ih0 _ _ _
   | exact LeO.none _
   | refine LeO.ite ?_ ?_
   | refine LeO.bind ?_ (fun _ => ?_)
theorem dasdref03_Few.mono : ∀ a0 a1 k, LeO (dasdref03_Few.f k a0 a1) (dasdref03_Few.f (k + 1) a0 a1) := by
 intro a0 a1 k
 have ih0 := dasdref03_Few.mono_l k
 unfold dasdref03_Few.f
 repeat' first
   | (with_reducible exact ih0 _ _ _)
   | (with_reducible exact LeO.refl _)
   | (with_reducible exact LeO.none _)
   | (with_reducible refine LeO.ite ?_ ?_)
   | (with_reducible refine LeO.bind ?_ (fun _ => ?_))
   | exact ih0 _ _ _
   | exact LeO.none _
   | refine LeO.ite ?_ ?_
   | refine LeO.bind ?_ (fun _ => ?_)
set_option maxHeartbeats 8000000 in
set_option maxRecDepth 100000 in
theorem dasdref03_Few.calls (k : Nat) (A0 : Option Addr) (c0 : Nat) (l0 : List (S37)) (a1 : Int) (r : Bool) (w : World) (hr0 : Kd.C k37 w A0 l0.length l0) (hc0 : l0.length ≤ c0) (h : dasdref03_Few.f k l0 a1 = some r) :
  Calls Try.prog 11 #[.slice A0 l0.length c0, .int .i64 a1] w fun e w' => e = .returned (.bool r) ∧ Drawn0 w w' := by
 have HR0 := Aside0.mk hr0
 have HC0 := Aside0.mk hc0
 clear hr0 hc0
 have H : (dasdref03_Few.l0 k l0 a1 0) = some r := h
 clear h
 have H' := Aside0.mk H
 clear H
 go_enter Try.func11, Try.ntmps11
 go_wp2
 go_loopg [5] k (fun kq v5 w' => ∃ (x5_1 : Int), v5 = .int .i64 x5_1 ∧ Aside0 (dasdref03_Few.l0 kq l0 a1 x5_1 = some r) ∧ Aside0 (kq ≤ k) ∧ Drawn0 w w')
 case atStart => exact ⟨(0), (by first | rfl | (simp; done) | (simp [*]; done)), H', ⟨Nat.le_refl _⟩, by repeat (first | exact Drawn0.refl _ | apply Drawn0.step)⟩
 case round =>
  clear H'
  try clear c1
  try clear p2
  obtain ⟨x5_1, rfl, HA, HK1, ⟨m1, rfl⟩⟩ := hrel
  cases gk with
  | zero => exact absurd HA.out (by simp [dasdref03_Few.l0])
  | succ k1 =>
   have H := HA.out
   clear HA
   simp only [dasdref03_Few.l0] at H
   by_cases c3 : x5_1 < (l0.length : Int)
   ·rw [if_pos c3] at H
    have c3b0 : decide (x5_1 < (l0.length : Int)) = true := decide_eq_true c3
    clear c3
    by_cases c4 : 0 ≤ x5_1
    ·rw [if_pos c4] at H
     have c4b0 : decide (0 ≤ x5_1) = true := decide_eq_true c4
     clear c4
     by_cases c5 : (((rd_T37 l0 x5_1).f3).size : Int) > 300
     ·rw [if_pos c5] at H
      have c5b0 : decide (300 < (((rd_T37 l0 x5_1).f3).size : Int)) = true := decide_eq_true c5
      have c5b1 : decide (300 < ((rd_T37 l0 x5_1).f3).size) = true := decide_eq_true (by omega)
      clear c5
      obtain rfl := Option.some.inj H
      have p104 : 0 ≤ (x5_1 : Int) := of_decide_eq_true (by first | (with_reducible assumption) | assumption)
      have q104 : x5_1 < (l0.length : Int) := of_decide_eq_true (by first | (with_reducible assumption) | assumption)
      obtain ⟨ad104, A104_7, c104_7, e104, hx104_0, hx104_1, hx104_2, hx104_3, hx104_4, hx104_5, hx104_6, hx104_7, hl104_7, hi104_7⟩ := at_T37 HR0.out x5_1 p104 q104
      cases e104
      have HR104_7 := Aside0.mk hi104_7
      have HC104_7 := Aside0.mk hl104_7
      clear hi104_7 hl104_7
      replace p104 := eq_true p104
      replace q104 := eq_true q104
      go_wp2
      go_ret
      exact ⟨by first | rfl | (simp; done) | (simp [*]; done), by repeat (first | exact Drawn0.refl _ | apply Drawn0.step)⟩
     ·rw [if_neg c5] at H
      have c5b0 : decide (300 < (((rd_T37 l0 x5_1).f3).size : Int)) = false := decide_eq_false c5
      have c5b1 : decide (300 < ((rd_T37 l0 x5_1).f3).size) = false := decide_eq_false (by omega)
      clear c5
      by_cases c6 : (((rd_T37 l0 x5_1).f6).length : Int) > 100
      ·rw [if_pos c6] at H
       have c6b0 : decide (100 < (((rd_T37 l0 x5_1).f6).length : Int)) = true := decide_eq_true c6
       have c6b1 : decide (100 < ((rd_T37 l0 x5_1).f6).length) = true := decide_eq_true (by omega)
       clear c6
       obtain rfl := Option.some.inj H
       have p104 : 0 ≤ (x5_1 : Int) := of_decide_eq_true (by first | (with_reducible assumption) | assumption)
       have q104 : x5_1 < (l0.length : Int) := of_decide_eq_true (by first | (with_reducible assumption) | assumption)
       obtain ⟨ad104, A104_7, c104_7, e104, hx104_0, hx104_1, hx104_2, hx104_3, hx104_4, hx104_5, hx104_6, hx104_7, hl104_7, hi104_7⟩ := at_T37 HR0.out x5_1 p104 q104
       cases e104
       have HR104_7 := Aside0.mk hi104_7
       have HC104_7 := Aside0.mk hl104_7
       clear hi104_7 hl104_7
       replace p104 := eq_true p104
       replace q104 := eq_true q104
       have p105 : 0 ≤ (x5_1 : Int) := of_decide_eq_true (by first | (with_reducible assumption) | assumption)
       have q105 : x5_1 < (l0.length : Int) := of_decide_eq_true (by first | (with_reducible assumption) | assumption)
       obtain ⟨ad105, A105_7, c105_7, e105, hx105_0, hx105_1, hx105_2, hx105_3, hx105_4, hx105_5, hx105_6, hx105_7, hl105_7, hi105_7⟩ := at_T37 HR0.out x5_1 p105 q105
       obtain rfl : ad104 = ad105 := (by injection e105)
       have HR105_7 := Aside0.mk hi105_7
       have HC105_7 := Aside0.mk hl105_7
       clear hi105_7 hl105_7
       replace p105 := eq_true p105
       replace q105 := eq_true q105
       have ea_ := Option.some.inj (hx104_7.symm.trans hx105_7)
       injection ea_ with ea_ en_ ec_
       subst ea_
       subst ec_
       clear en_
       go_wp2
       go_ret
       exact ⟨by first | rfl | (simp; done) | (simp [*]; done), by repeat (first | exact Drawn0.refl _ | apply Drawn0.step)⟩
      ·rw [if_neg c6] at H
       have c6b0 : decide (100 < (((rd_T37 l0 x5_1).f6).length : Int)) = false := decide_eq_false c6
       have c6b1 : decide (100 < ((rd_T37 l0 x5_1).f6).length) = false := decide_eq_false (by omega)
       clear c6
       have H' := Aside0.mk H
       clear H
       have p104 : 0 ≤ (x5_1 : Int) := of_decide_eq_true (by first | (with_reducible assumption) | assumption)
       have q104 : x5_1 < (l0.length : Int) := of_decide_eq_true (by first | (with_reducible assumption) | assumption)
       obtain ⟨ad104, A104_7, c104_7, e104, hx104_0, hx104_1, hx104_2, hx104_3, hx104_4, hx104_5, hx104_6, hx104_7, hl104_7, hi104_7⟩ := at_T37 HR0.out x5_1 p104 q104
       cases e104
       have HR104_7 := Aside0.mk hi104_7
       have HC104_7 := Aside0.mk hl104_7
       clear hi104_7 hl104_7
       replace p104 := eq_true p104
       replace q104 := eq_true q104
       have p105 : 0 ≤ (x5_1 : Int) := of_decide_eq_true (by first | (with_reducible assumption) | assumption)
       have q105 : x5_1 < (l0.length : Int) := of_decide_eq_true (by first | (with_reducible assumption) | assumption)
       obtain ⟨ad105, A105_7, c105_7, e105, hx105_0, hx105_1, hx105_2, hx105_3, hx105_4, hx105_5, hx105_6, hx105_7, hl105_7, hi105_7⟩ := at_T37 HR0.out x5_1 p105 q105
       obtain rfl : ad104 = ad105 := (by injection e105)
       have HR105_7 := Aside0.mk hi105_7
       have HC105_7 := Aside0.mk hl105_7
       clear hi105_7 hl105_7
       replace p105 := eq_true p105
       replace q105 := eq_true q105
       have ea_ := Option.some.inj (hx104_7.symm.trans hx105_7)
       injection ea_ with ea_ en_ ec_
       subst ea_
       subst ec_
       clear en_
       go_wp2
       go_roundg k1
       case measure => have := HK1.out; omega
       case rel => exact ⟨(wrap64 (x5_1 + 1)), (by first | rfl | (simp; done) | (simp [*]; done)), H', ⟨by have := HK1.out; omega⟩, by repeat (first | exact Drawn0.refl _ | apply Drawn0.step)⟩
    ·rw [if_neg c4] at H
     exact absurd H (by simp)
   ·rw [if_neg c3] at H
    have c3b0 : decide (x5_1 < (l0.length : Int)) = false := decide_eq_false c3
    clear c3
    obtain rfl := Option.some.inj H
    go_wp2
    go_ret
    exact ⟨by first | rfl | (simp; done) | (simp [*]; done), by repeat (first | exact Drawn0.refl _ | apply Drawn0.step)⟩
def dasdref03_writer.f (a0_0 : Int) (a0_1 : Int) : Option (Bool) := if a0_0 ≥ 1 then (if a0_0 ≤ 4 then (if a0_1 ≥ 0 then (some (decide (a0_1 ≤ 1099511627776))) else (some false)) else (some false)) else (some false)
set_option maxHeartbeats 8000000 in
set_option maxRecDepth 100000 in
theorem dasdref03_writer.calls (a0_0 : Int) (a0_1 : Int) (r : Bool) (w : World) (h : dasdref03_writer.f a0_0 a0_1 = some r) :
  Calls Try.prog 53 #[.agg #[.int .i64 a0_0, .int .i64 a0_1]] w fun e w' => e = .returned (.bool r) ∧ Below w.heap.size w w' := by
 have hu35 := Try.underlying35
 have HB := Aside0.mk (Below.refl w.heap.size w)
 have H : (if a0_0 ≥ 1 then (if a0_0 ≤ 4 then (if a0_1 ≥ 0 then (some (decide (a0_1 ≤ 1099511627776))) else (some false)) else (some false)) else (some false)) = some r := h
 clear h
 by_cases c2 : a0_0 ≥ 1
 ·rw [if_pos c2] at H
  have c2b0 : decide (1 ≤ a0_0) = true := decide_eq_true c2
  clear c2
  by_cases c3 : a0_0 ≤ 4
  ·rw [if_pos c3] at H
   have c3b0 : decide (a0_0 ≤ 4) = true := decide_eq_true c3
   clear c3
   by_cases c4 : a0_1 ≥ 0
   ·rw [if_pos c4] at H
    have c4b0 : decide (0 ≤ a0_1) = true := decide_eq_true c4
    clear c4
    obtain rfl := Option.some.inj H
    go_enter Try.func53, Try.ntmps53
    go_wp2_with (first | ((with_reducible refine gate_dst (N := 1) rfl ?_); refine box_event ?hg (N := 1) ?hd (cs := #[.int .i64 a0_0, .int .i64 a0_1]) (t := 35) ?hr ?_; (case hd => rfl); (case hg => rfl); (case hr => first | (go_simp; done) | (go_simp; rfl)); intro gb118 hg w5 hbox hb; have n0_ := Aside0.mk (below_step (by repeat (first | (with_reducible first | exact HB.out | apply below_alloc | apply pw_below_drewN | apply below_drew1) | exact HB.out)) hb); have n1_ := Aside0.mk (hbox); have n2_ := Aside0.mk ((by rw [hg]; exact (below_size (by repeat (first | (with_reducible first | exact HB.out | apply below_alloc | apply pw_below_drewN | apply below_drew1) | exact HB.out))) : w.heap.size ≤ gb118)); have n3_ := Aside0.mk ((by rw [hg]; exact (below_size (by repeat (first | (with_reducible first | exact HB.out | apply below_alloc | apply pw_below_drewN | apply below_drew1) | exact HB.out))) : w.heap.size ≤ gb118)); clear HB; have HB := n0_; have BK118 := n1_; have GW118 := n2_; have GE118 := n3_; clear n0_ n1_ n2_ n3_; clear hb hbox hg; have hcz6_0 : w5.cell? ⟨gb118, 0, none⟩ = some (.int .i64 a0_0) := (blk_cell BK118.out 0).trans rfl; have hcz6_1 : w5.cell? ⟨gb118, 1, none⟩ = some (.int .i64 a0_1) := (blk_cell BK118.out 1).trans rfl; have hfz6_0 := blk_frozen BK118.out 0; have hfz6_1 := blk_frozen BK118.out 1))
    go_ret
    exact ⟨by first | rfl | (simp [errW_none, errW_some] <;> rfl) | (simp [*, errW_none, errW_some] <;> rfl), by repeat (first | (with_reducible first | exact HB.out | apply below_alloc | apply pw_below_drewN | apply below_drew1 | refine below_set ?_ GE118.out) | exact HB.out)⟩
   ·rw [if_neg c4] at H
    have c4b0 : decide (0 ≤ a0_1) = false := decide_eq_false c4
    clear c4
    obtain rfl := Option.some.inj H
    go_enter Try.func53, Try.ntmps53
    go_wp2_with (first | ((with_reducible refine gate_dst (N := 1) rfl ?_); refine box_event ?hg (N := 1) ?hd (cs := #[.int .i64 a0_0, .int .i64 a0_1]) (t := 35) ?hr ?_; (case hd => rfl); (case hg => rfl); (case hr => first | (go_simp; done) | (go_simp; rfl)); intro gb118 hg w7 hbox hb; have n0_ := Aside0.mk (below_step (by repeat (first | (with_reducible first | exact HB.out | apply below_alloc | apply pw_below_drewN | apply below_drew1) | exact HB.out)) hb); have n1_ := Aside0.mk (hbox); have n2_ := Aside0.mk ((by rw [hg]; exact (below_size (by repeat (first | (with_reducible first | exact HB.out | apply below_alloc | apply pw_below_drewN | apply below_drew1) | exact HB.out))) : w.heap.size ≤ gb118)); have n3_ := Aside0.mk ((by rw [hg]; exact (below_size (by repeat (first | (with_reducible first | exact HB.out | apply below_alloc | apply pw_below_drewN | apply below_drew1) | exact HB.out))) : w.heap.size ≤ gb118)); clear HB; have HB := n0_; have BK118 := n1_; have GW118 := n2_; have GE118 := n3_; clear n0_ n1_ n2_ n3_; clear hb hbox hg; have hcz8_0 : w7.cell? ⟨gb118, 0, none⟩ = some (.int .i64 a0_0) := (blk_cell BK118.out 0).trans rfl; have hcz8_1 : w7.cell? ⟨gb118, 1, none⟩ = some (.int .i64 a0_1) := (blk_cell BK118.out 1).trans rfl; have hfz8_0 := blk_frozen BK118.out 0; have hfz8_1 := blk_frozen BK118.out 1))
    go_ret
    exact ⟨by first | rfl | (simp [errW_none, errW_some] <;> rfl) | (simp [*, errW_none, errW_some] <;> rfl), by repeat (first | (with_reducible first | exact HB.out | apply below_alloc | apply pw_below_drewN | apply below_drew1 | refine below_set ?_ GE118.out) | exact HB.out)⟩
  ·rw [if_neg c3] at H
   have c3b0 : decide (a0_0 ≤ 4) = false := decide_eq_false c3
   clear c3
   obtain rfl := Option.some.inj H
   go_enter Try.func53, Try.ntmps53
   go_wp2_with (first | ((with_reducible refine gate_dst (N := 1) rfl ?_); refine box_event ?hg (N := 1) ?hd (cs := #[.int .i64 a0_0, .int .i64 a0_1]) (t := 35) ?hr ?_; (case hd => rfl); (case hg => rfl); (case hr => first | (go_simp; done) | (go_simp; rfl)); intro gb118 hg w9 hbox hb; have n0_ := Aside0.mk (below_step (by repeat (first | (with_reducible first | exact HB.out | apply below_alloc | apply pw_below_drewN | apply below_drew1) | exact HB.out)) hb); have n1_ := Aside0.mk (hbox); have n2_ := Aside0.mk ((by rw [hg]; exact (below_size (by repeat (first | (with_reducible first | exact HB.out | apply below_alloc | apply pw_below_drewN | apply below_drew1) | exact HB.out))) : w.heap.size ≤ gb118)); have n3_ := Aside0.mk ((by rw [hg]; exact (below_size (by repeat (first | (with_reducible first | exact HB.out | apply below_alloc | apply pw_below_drewN | apply below_drew1) | exact HB.out))) : w.heap.size ≤ gb118)); clear HB; have HB := n0_; have BK118 := n1_; have GW118 := n2_; have GE118 := n3_; clear n0_ n1_ n2_ n3_; clear hb hbox hg; have hcz10_0 : w9.cell? ⟨gb118, 0, none⟩ = some (.int .i64 a0_0) := (blk_cell BK118.out 0).trans rfl; have hcz10_1 : w9.cell? ⟨gb118, 1, none⟩ = some (.int .i64 a0_1) := (blk_cell BK118.out 1).trans rfl; have hfz10_0 := blk_frozen BK118.out 0; have hfz10_1 := blk_frozen BK118.out 1))
   go_ret
   exact ⟨by first | rfl | (simp [errW_none, errW_some] <;> rfl) | (simp [*, errW_none, errW_some] <;> rfl), by repeat (first | (with_reducible first | exact HB.out | apply below_alloc | apply pw_below_drewN | apply below_drew1 | refine below_set ?_ GE118.out) | exact HB.out)⟩
 ·rw [if_neg c2] at H
  have c2b0 : decide (1 ≤ a0_0) = false := decide_eq_false c2
  clear c2
  obtain rfl := Option.some.inj H
  go_enter Try.func53, Try.ntmps53
  go_wp2_with (first | ((with_reducible refine gate_dst (N := 1) rfl ?_); refine box_event ?hg (N := 1) ?hd (cs := #[.int .i64 a0_0, .int .i64 a0_1]) (t := 35) ?hr ?_; (case hd => rfl); (case hg => rfl); (case hr => first | (go_simp; done) | (go_simp; rfl)); intro gb118 hg w11 hbox hb; have n0_ := Aside0.mk (below_step (by repeat (first | (with_reducible first | exact HB.out | apply below_alloc | apply pw_below_drewN | apply below_drew1) | exact HB.out)) hb); have n1_ := Aside0.mk (hbox); have n2_ := Aside0.mk ((by rw [hg]; exact (below_size (by repeat (first | (with_reducible first | exact HB.out | apply below_alloc | apply pw_below_drewN | apply below_drew1) | exact HB.out))) : w.heap.size ≤ gb118)); have n3_ := Aside0.mk ((by rw [hg]; exact (below_size (by repeat (first | (with_reducible first | exact HB.out | apply below_alloc | apply pw_below_drewN | apply below_drew1) | exact HB.out))) : w.heap.size ≤ gb118)); clear HB; have HB := n0_; have BK118 := n1_; have GW118 := n2_; have GE118 := n3_; clear n0_ n1_ n2_ n3_; clear hb hbox hg; have hcz12_0 : w11.cell? ⟨gb118, 0, none⟩ = some (.int .i64 a0_0) := (blk_cell BK118.out 0).trans rfl; have hcz12_1 : w11.cell? ⟨gb118, 1, none⟩ = some (.int .i64 a0_1) := (blk_cell BK118.out 1).trans rfl; have hfz12_0 := blk_frozen BK118.out 0; have hfz12_1 := blk_frozen BK118.out 1))
  go_ret
  exact ⟨by first | rfl | (simp [errW_none, errW_some] <;> rfl) | (simp [*, errW_none, errW_some] <;> rfl), by repeat (first | (with_reducible first | exact HB.out | apply below_alloc | apply pw_below_drewN | apply below_drew1 | refine below_set ?_ GE118.out) | exact HB.out)⟩
def dasdref03_there.f (l0_0 : List ByteArray) (l0_1 : List (List ByteArray)) (l0_2 : List (S99)) (l0_3 : List Int) (a0_4 : Bool) (a0_5 : Int) (l0_6 : List Int) (a1 : Int) : Option (Bool) := if a1 ≥ 0 then (some (decide (a1 < (l0_0.length : Int)))) else (some false)
set_option maxHeartbeats 8000000 in
set_option maxRecDepth 100000 in
theorem dasdref03_there.calls (A0_0 : Option Addr) (c0_0 : Nat) (l0_0 : List ByteArray) (A0_1 : Option Addr) (c0_1 : Nat) (l0_1 : List (List ByteArray)) (A0_2 : Option Addr) (c0_2 : Nat) (l0_2 : List (S99)) (A0_3 : Option Addr) (c0_3 : Nat) (l0_3 : List Int) (a0_4 : Bool) (a0_5 : Int) (A0_6 : Option Addr) (c0_6 : Nat) (l0_6 : List Int) (a1 : Int) (r : Bool) (w : World) (hr0_0 : Kd.C Kd.string w A0_0 l0_0.length l0_0) (hc0_0 : l0_0.length ≤ c0_0) (hr0_1 : Kd.C (Kd.slice 9 Kd.string) w A0_1 l0_1.length l0_1) (hc0_1 : l0_1.length ≤ c0_1) (hr0_2 : Kd.C k99 w A0_2 l0_2.length l0_2) (hc0_2 : l0_2.length ≤ c0_2) (hr0_3 : Kd.C (Kd.int .i64) w A0_3 l0_3.length l0_3) (hc0_3 : l0_3.length ≤ c0_3) (hr0_6 : Kd.C (Kd.int .i64) w A0_6 l0_6.length l0_6) (hc0_6 : l0_6.length ≤ c0_6) (h : dasdref03_there.f l0_0 l0_1 l0_2 l0_3 a0_4 a0_5 l0_6 a1 = some r) :
  Calls Try.prog 54 #[.agg #[.slice A0_0 l0_0.length c0_0, .slice A0_1 l0_1.length c0_1, .slice A0_2 l0_2.length c0_2, .slice A0_3 l0_3.length c0_3, .bool a0_4, .int .i64 a0_5, .slice A0_6 l0_6.length c0_6], .int .i64 a1] w fun e w' => e = .returned (.bool r) ∧ Below w.heap.size w w' := by
 have hu31 := Try.underlying31
 have HR0_0 := Aside0.mk hr0_0
 have HC0_0 := Aside0.mk hc0_0
 clear hr0_0 hc0_0
 have HR0_1 := Aside0.mk hr0_1
 have HC0_1 := Aside0.mk hc0_1
 clear hr0_1 hc0_1
 have HR0_2 := Aside0.mk hr0_2
 have HC0_2 := Aside0.mk hc0_2
 clear hr0_2 hc0_2
 have HR0_3 := Aside0.mk hr0_3
 have HC0_3 := Aside0.mk hc0_3
 clear hr0_3 hc0_3
 have HR0_6 := Aside0.mk hr0_6
 have HC0_6 := Aside0.mk hc0_6
 clear hr0_6 hc0_6
 have HB := Aside0.mk (Below.refl w.heap.size w)
 have H : (if a1 ≥ 0 then (some (decide (a1 < (l0_0.length : Int)))) else (some false)) = some r := h
 clear h
 by_cases c3 : a1 ≥ 0
 ·rw [if_pos c3] at H
  have c3b0 : decide (0 ≤ a1) = true := decide_eq_true c3
  clear c3
  obtain rfl := Option.some.inj H
  go_enter Try.func54, Try.ntmps54
  go_wp2_with (first | ((with_reducible refine gate_dst (N := 2) rfl ?_); (try (refine gate_guard (by rfl) ?_; dsimp only)); refine box_event ?hg (N := 2) ?hd (cs := #[.slice A0_0 l0_0.length c0_0, .slice A0_1 l0_1.length c0_1, .slice A0_2 l0_2.length c0_2, .slice A0_3 l0_3.length c0_3, .bool a0_4, .int .i64 a0_5, .slice A0_6 l0_6.length c0_6]) (t := 31) ?hr ?_; (case hd => rfl); (case hg => rfl); (case hr => first | (go_simp; done) | (go_simp; rfl)); intro gb119 hg w4 hbox hb; have n0_ := Aside0.mk (below_step (by repeat (first | (with_reducible first | exact HB.out | apply below_alloc | apply pw_below_drewN | apply below_drew1) | exact HB.out)) hb); have n1_ := Aside0.mk (hbox); have n2_ := Aside0.mk ((by rw [hg]; exact (below_size (by repeat (first | (with_reducible first | exact HB.out | apply below_alloc | apply pw_below_drewN | apply below_drew1) | exact HB.out))) : w.heap.size ≤ gb119)); have n3_ := Aside0.mk ((by rw [hg]; exact (below_size (by repeat (first | (with_reducible first | exact HB.out | apply below_alloc | apply pw_below_drewN | apply below_drew1) | exact HB.out))) : w.heap.size ≤ gb119)); clear HB; have HB := n0_; have BK119 := n1_; have GW119 := n2_; have GE119 := n3_; clear n0_ n1_ n2_ n3_; clear hb hbox hg; have hcz5_0 : w4.cell? ⟨gb119, 0, none⟩ = some (.slice A0_0 l0_0.length c0_0) := (blk_cell BK119.out 0).trans rfl; have hcz5_1 : w4.cell? ⟨gb119, 1, none⟩ = some (.slice A0_1 l0_1.length c0_1) := (blk_cell BK119.out 1).trans rfl; have hcz5_2 : w4.cell? ⟨gb119, 2, none⟩ = some (.slice A0_2 l0_2.length c0_2) := (blk_cell BK119.out 2).trans rfl; have hcz5_3 : w4.cell? ⟨gb119, 3, none⟩ = some (.slice A0_3 l0_3.length c0_3) := (blk_cell BK119.out 3).trans rfl; have hcz5_4 : w4.cell? ⟨gb119, 4, none⟩ = some (.bool a0_4) := (blk_cell BK119.out 4).trans rfl; have hcz5_5 : w4.cell? ⟨gb119, 5, none⟩ = some (.int .i64 a0_5) := (blk_cell BK119.out 5).trans rfl; have hcz5_6 : w4.cell? ⟨gb119, 6, none⟩ = some (.slice A0_6 l0_6.length c0_6) := (blk_cell BK119.out 6).trans rfl; have hfz5_0 := blk_frozen BK119.out 0; have hfz5_1 := blk_frozen BK119.out 1; have hfz5_2 := blk_frozen BK119.out 2; have hfz5_3 := blk_frozen BK119.out 3; have hfz5_4 := blk_frozen BK119.out 4; have hfz5_5 := blk_frozen BK119.out 5; have hfz5_6 := blk_frozen BK119.out 6))
  go_ret
  exact ⟨by first | rfl | (simp [errW_none, errW_some] <;> rfl) | (simp [*, errW_none, errW_some] <;> rfl), by repeat (first | (with_reducible first | exact HB.out | apply below_alloc | apply pw_below_drewN | apply below_drew1 | refine below_set ?_ GE119.out) | exact HB.out)⟩
 ·rw [if_neg c3] at H
  have c3b0 : decide (0 ≤ a1) = false := decide_eq_false c3
  clear c3
  obtain rfl := Option.some.inj H
  go_enter Try.func54, Try.ntmps54
  go_wp2_with (first | ((with_reducible refine gate_dst (N := 2) rfl ?_); (try (refine gate_guard (by rfl) ?_; dsimp only)); refine box_event ?hg (N := 2) ?hd (cs := #[.slice A0_0 l0_0.length c0_0, .slice A0_1 l0_1.length c0_1, .slice A0_2 l0_2.length c0_2, .slice A0_3 l0_3.length c0_3, .bool a0_4, .int .i64 a0_5, .slice A0_6 l0_6.length c0_6]) (t := 31) ?hr ?_; (case hd => rfl); (case hg => rfl); (case hr => first | (go_simp; done) | (go_simp; rfl)); intro gb119 hg w6 hbox hb; have n0_ := Aside0.mk (below_step (by repeat (first | (with_reducible first | exact HB.out | apply below_alloc | apply pw_below_drewN | apply below_drew1) | exact HB.out)) hb); have n1_ := Aside0.mk (hbox); have n2_ := Aside0.mk ((by rw [hg]; exact (below_size (by repeat (first | (with_reducible first | exact HB.out | apply below_alloc | apply pw_below_drewN | apply below_drew1) | exact HB.out))) : w.heap.size ≤ gb119)); have n3_ := Aside0.mk ((by rw [hg]; exact (below_size (by repeat (first | (with_reducible first | exact HB.out | apply below_alloc | apply pw_below_drewN | apply below_drew1) | exact HB.out))) : w.heap.size ≤ gb119)); clear HB; have HB := n0_; have BK119 := n1_; have GW119 := n2_; have GE119 := n3_; clear n0_ n1_ n2_ n3_; clear hb hbox hg))
  go_ret
  exact ⟨by first | rfl | (simp [errW_none, errW_some] <;> rfl) | (simp [*, errW_none, errW_some] <;> rfl), by repeat (first | (with_reducible first | exact HB.out | apply below_alloc | apply pw_below_drewN | apply below_drew1 | refine below_set ?_ GE119.out) | exact HB.out)⟩
end Go.Proofs.Ytflajmgichdhhaa.PG
namespace Go.Proofs.Ytflajmgichdhhaa.PG
open Go.RowKit Go.Proofs.YtflajmgichdhhaaW.PrintWords Go.Proofs.YtflajmgichdhhaaW.PrintLast Go.Proofs.YtflajmgichdhhaaW.PrintMore
open Go.ChangeMaps (setBlock)
set_option linter.unusedVariables false
set_option linter.unusedSimpArgs false
def encP (a : Int) : Value := .int .i64 a
def encC (c : Int) : Value := .int .i64 c
abbrev Ents := List (Int × Int)
def look (a : Int) : Ents → Option Int
  | [] => none
  | e :: m => if e.1 = a then some e.2 else look a m
def fidx (a : Int) : Ents → Nat → Option (Nat × Int)
  | [], _ => none
  | e :: m, i => if e.1 = a then some (i, e.2) else fidx a m (i + 1)
def upd (a : Int) (c : Int) : Ents → Ents
  | [] => [(a, c)]
  | e :: m => if e.1 = a then (a, c) :: m else e :: upd a c m
def del (a : Int) : Ents → Ents
  | [] => []
  | e :: m => if e.1 = a then m else e :: del a m
def keys (m : Ents) : List Int := m.map Prod.fst
theorem look_fidx (a : Int) : ∀ (m : Ents) (i : Nat), (fidx a m i).map Prod.snd = look a m
 | [], _ => rfl
 | e :: m, i => by
  unfold fidx look
  split
  ·rfl
  ·exact look_fidx a m (i + 1)
theorem look_upd (a b : Int) (c : Int) : ∀ m : Ents, look b (upd a c m) = if b = a then some c else look b m
 | [] => by
  simp only [upd, look]
  by_cases h : a = b
  ·rw [if_pos h, if_pos h.symm]
  ·rw [if_neg h, if_neg (fun z => h z.symm)]
 | e :: m => by
  simp only [upd]
  by_cases h : e.1 = a
  ·rw [if_pos h]
   simp only [look]
   by_cases hb : b = a
   ·rw [if_pos hb.symm, if_pos hb]
   ·rw [if_neg (fun z => hb z.symm), if_neg hb, if_neg (fun z => hb (z.symm.trans h))]
  ·rw [if_neg h]
   simp only [look]
   by_cases he : e.1 = b
   ·rw [if_pos he, if_neg (fun z => h (he.trans z)), if_pos he]
   ·rw [if_neg he, look_upd a b c m, if_neg he]
theorem keys_upd (a : Int) (c : Int) : ∀ (m : Ents) (x : Int), x ∈ keys (upd a c m) → x = a ∨ x ∈ keys m
 | [], x, h => by simp [upd, keys] at h; exact Or.inl h
 | e :: m, x, h => by
  simp only [upd] at h
  by_cases he : e.1 = a
  ·rw [if_pos he] at h
   rcases List.mem_cons.1 h with h | h
   ·exact Or.inl h
   ·exact Or.inr (List.mem_cons_of_mem _ h)
  ·rw [if_neg he] at h
   rcases List.mem_cons.1 h with h | h
   ·exact Or.inr (by rw [h]; exact List.mem_cons_self)
   ·rcases keys_upd a c m x h with h | h
    ·exact Or.inl h
    ·exact Or.inr (List.mem_cons_of_mem _ h)
theorem nodup_upd (a : Int) (c : Int) : ∀ m : Ents, (keys m).Nodup → (keys (upd a c m)).Nodup
 | [], _ => by simp [upd, keys]
 | e :: m, h => by
  obtain ⟨h1, h2⟩ := List.nodup_cons.1 (show (e.1 :: keys m).Nodup from h)
  simp only [upd]
  by_cases he : e.1 = a
  ·rw [if_pos he]
   exact List.nodup_cons.2 ⟨he ▸ h1, h2⟩
  ·rw [if_neg he]
   refine List.nodup_cons.2 ⟨fun hx => ?_, nodup_upd a c m h2⟩
   rcases keys_upd a c m _ hx with hx | hx
   ·exact he hx
   ·exact h1 hx
theorem look_none (a : Int) : ∀ m : Ents, a ∉ keys m → look a m = none
 | [], _ => rfl
 | e :: m, h => by
  simp only [look]
  rw [if_neg (fun z => h (by rw [← z]; exact List.mem_cons_self)), look_none a m (fun z => h (List.mem_cons_of_mem _ z))]
def entry (x : MapEntry) : Value × Value := (x.key, x.val)
def MapIs (w : World) (b : Nat) (m : Ents) : Prop :=
  ∃ es clock, w.heap[b]? = some (.map es clock) ∧ es.toList.map entry = m.map (fun x => (encP x.1, encC x.2)) ∧ (keys m).Nodup ∧ MapKept.Stamped es clock
theorem MapIs.lt {w : World} {b : Nat} {m : Ents} (h : MapIs w b m) : b < w.heap.size := by obtain ⟨es, c, hb, _⟩ := h; exact (Array.getElem?_eq_some_iff.1 hb).1
theorem MapIs.move {w w' : World} {b : Nat} {m : Ents} (h : MapIs w b m) (hb : w'.heap[b]? = w.heap[b]?) : MapIs w' b m := by obtain ⟨es, c, h1, h2⟩ := h; exact ⟨es, c, hb.trans h1, h2⟩
theorem check3 (w : World) (em : Bool) (x : Int) : (Instr.checkKey em 10000 3 (.int .i64 x)).run Try.prog w = .ok () w := by kernel_rfl
theorem stays3 (w : World) (x : Int) : (Instr.keyThatStays (.int .i64 x) (.int .i64 x)).run Try.prog w = .ok (.int .i64 x) w := by
 simp [Instr.keyThatStays, Instr.sameBits]
theorem same_now (a b : Int) : Instr.sameNow (.int .i64) (.int .i64 a) (.int .i64 b) = some (decide (a = b)) := by
 simp [Instr.sameNow]
 by_cases h : a = b <;> simp [h]
theorem find_now (a : Int) : ∀ (es : List MapEntry) (m : Ents) (i : Nat), es.map entry = m.map (fun x => (encP x.1, encC x.2)) →
  Instr.findNow (.int .i64) (encP a) es i = some ((fidx a m i).map fun x => (x.1, encC x.2))
 | [], [], i, _ => by simp [Instr.findNow, fidx]
 | [], _ :: _, _, h => by cases h
 | _ :: _, [], _, h => by cases h
 | e :: es, x :: m, i, h => by
  have h' : entry e :: es.map entry = (encP x.1, encC x.2) :: m.map (fun x => (encP x.1, encC x.2)) := h
  injection h' with h1 h2
  have hk : e.key = encP x.1 := congrArg Prod.fst h1
  have hv : e.val = encC x.2 := congrArg Prod.snd h1
  have ih := find_now a es m (i + 1) h2
  by_cases hx : x.1 = a
  ·simp [Instr.findNow, hk, encP, hx, fidx, hv, same_now]
  ·have hx' : ¬ a = x.1 := fun z => hx z.symm
   simp only [encP] at hk ih ⊢
   simp [Instr.findNow, hk, hx, hx', fidx, ih, same_now]
theorem run_findKey (w : World) (a : Int) (es : List MapEntry) (m : Ents) (h : es.map entry = m.map (fun x => (encP x.1, encC x.2))) :
  (Instr.findKey 3 (encP a) es).run Try.prog w = .ok ((fidx a m 0).map fun x => (x.1, encC x.2)) w :=
 MapKept.run_findKey Try.underlying3 (find_now a es m 0 h)
theorem fidx_get (a : Int) : ∀ (m : Ents) (i j : Nat) (c : Int), fidx a m i = some (j, c) → ∃ n, j = i + n ∧ m[n]? = some (a, c) ∧ upd a = upd a ∧ (∀ c', upd a c' m = m.set n (a, c')) ∧ del a m = m.eraseIdx n
 | [], _, _, _, h => by cases h
 | e :: m, i, j, c, h => by
  unfold fidx at h
  by_cases he : e.1 = a
  ·rw [if_pos he] at h
   injection h with h
   injection h with h1 h2
   refine ⟨0, h1.symm, ?_, rfl, fun c' => ?_, ?_⟩
   ·rw [← he, ← h2]; rfl
   ·simp only [upd]; rw [if_pos he]; rfl
   ·simp only [del]; rw [if_pos he]; rfl
  ·rw [if_neg he] at h
   obtain ⟨n, h1, h2, _, h3, h4⟩ := fidx_get a m (i + 1) j c h
   refine ⟨n + 1, by omega, h2, rfl, fun c' => ?_, ?_⟩
   ·simp only [upd]; rw [if_neg he, h3 c']; rfl
   ·simp only [del]; rw [if_neg he, h4]; rfl
theorem fidx_none (a : Int) : ∀ (m : Ents) (i : Nat), fidx a m i = none → (∀ c, upd a c m = m ++ [(a, c)]) ∧ del a m = m
 | [], _, _ => ⟨fun _ => rfl, rfl⟩
 | e :: m, i, h => by
  unfold fidx at h
  by_cases he : e.1 = a
  ·rw [if_pos he] at h; cases h
  ·rw [if_neg he] at h
   obtain ⟨h1, h2⟩ := fidx_none a m (i + 1) h
   refine ⟨fun c => ?_, ?_⟩
   ·simp only [upd]; rw [if_neg he, h1 c]; rfl
   ·simp only [del]; rw [if_neg he, h2]
section
variable {T E : TypeId}
theorem MapIs.run_look {w : World} {b : Nat} {m : Ents} (h : MapIs w b m) (ht : Try.prog.underlying T = some (.map 3 E)) (hz : ∀ w : World, (zeroValue E).run Try.prog w = .ok (.int .i64 0) w) (a : Int) (ok : Bool) :
  (Instr.lookup T (.map (some b)) (encP a) ok).run Try.prog w = .ok (if ok then .tuple #[encC ((look a m).getD 0), .bool (look a m).isSome] else encC ((look a m).getD 0)) w := by
 obtain ⟨es, clock, hb, hes, hn, hst⟩ := h
 have hf := run_findKey w a es.toList m hes
 have hl := look_fidx a m 0
 have hc : ∀ em, (Instr.checkKey em 10000 3 (encP a)).run Try.prog w = .ok () w := fun em => check3 w em _
 cases hx : fidx a m 0 with
 | none =>
  rw [hx] at hf hl
  have hl : look a m = none := hl.symm
  rw [hl]
  simp [Instr.lookup, run_underlying ht, MapKept.run_getObj_map hb, hc, hf, hz, Result.andThen, encC]
 | some z =>
  rw [hx] at hf hl
  have hl : look a m = some z.2 := hl.symm
  rw [hl]
  simp [Instr.lookup, run_underlying ht, MapKept.run_getObj_map hb, hc, hf, Result.andThen]
theorem fidx_mem (a : Int) : ∀ (m : Ents) (i : Nat), a ∈ keys m → fidx a m i ≠ none
 | [], _, h => by cases h
 | (b, c) :: m, i, h => by
  unfold fidx
  by_cases e : a = b
  ·rw [if_pos (by first | exact e | exact e.symm)]
   simp
  ·rw [if_neg (by first | exact e | exact fun z => e z.symm)]
   rcases List.mem_cons.1 h with h | h
   ·exact absurd h e
   ·exact fidx_mem a m (i + 1) h
theorem key_none (a : Int) (es : List MapEntry) (m : Ents) (h : es.map entry = m.map (fun x => (encP x.1, encC x.2))) (hn : fidx a m 0 = none) : ∀ x ∈ es, x.key ≠ encP a := by
 intro x hx e
 have h1 : entry x ∈ m.map (fun x => (encP x.1, encC x.2)) := by rw [← h]; exact List.mem_map_of_mem hx
 obtain ⟨y, hy, ey⟩ := List.mem_map.1 h1
 have h2 : encP y.1 = x.key := congrArg Prod.fst ey
 rw [e] at h2
 have h3 : y.1 = a := by unfold encP at h2; injection h2
 exact fidx_mem a m 0 (by rw [← h3]; exact List.mem_map_of_mem (f := Prod.fst) hy) hn
theorem MapIs.run_update {w : World} {b : Nat} {m : Ents} (h : MapIs w b m) (ht : Try.prog.underlying T = some (.map 3 E)) (a : Int) (c : Int) :
  ∃ w', (Instr.mapUpdate T (.map (some b)) (encP a) (encC c)).run Try.prog w = .ok () w' ∧ MapIs w' b (upd a c m) ∧ w.grownBy w' (some b) := by
 have hlt := h.lt
 obtain ⟨es, clock, hb, hes, hn, hst⟩ := h
 have hf := run_findKey w a es.toList m hes
 have hc : ∀ em, (Instr.checkKey em 10000 3 (encP a)).run Try.prog w = .ok () w := fun em => check3 w em _
 have hg : ∀ o, w.grownBy (setBlock w b o) (some b) := fun o => ⟨rfl, rfl, rfl, by simp [setBlock], fun k hk hne => by
  have : b ≠ k := fun z => hne (by rw [z])
  simp [setBlock, Array.getElem?_setIfInBounds, this]⟩
 have hset : ∀ o, (setBlock w b o).heap[b]? = some o := fun o => by simp [setBlock, Array.getElem?_setIfInBounds, hlt]
 cases hx : fidx a m 0 with
 | none =>
  have hx0 := hx
  rw [hx] at hf
  obtain ⟨e1, _⟩ := fidx_none a m 0 hx
  refine ⟨setBlock w b (.map (es.push { key := encP a, val := encC c, born := clock }) (clock + 1)), ?_, ⟨_, _, hset _, ?_, nodup_upd a c m hn, MapKept.stamped_push hst (fun x hx => key_none a es.toList m hes hx0 x hx)⟩, hg _⟩
  ·simp [Instr.mapUpdate, run_underlying ht, MapKept.run_getObj_map hb, hc, hf, MapKept.run_setObj_map _ hb, Result.andThen, setBlock]
  ·rw [e1 c, Array.toList_push, List.map_append, List.map_append, hes]
   rfl
 | some z =>
  rw [hx] at hf
  obtain ⟨n, e1, e2, _, e3, _⟩ := fidx_get a m 0 z.1 z.2 hx
  have hz : z.1 = n := by omega
  have hkey : ((es[n]?).map (·.key)).getD (encP a) = encP a := by
   have : (es.toList.map entry)[n]? = some (encP a, encC z.2) := by rw [hes, List.getElem?_map, e2]; rfl
   rw [List.getElem?_map] at this
   cases hq : es.toList[n]? with
   | none => rw [hq] at this; cases this
   | some y =>
    rw [hq] at this
    have hy : entry y = (encP a, encC z.2) := Option.some.inj this
    rw [Array.getElem?_toList] at hq
    rw [hq]
    exact congrArg Prod.fst hy
  refine ⟨setBlock w b (.map (es.modify n fun e => { e with key := encP a, val := encC c }) clock), ?_, ⟨_, _, hset _, ?_, nodup_upd a c m hn, MapKept.stamped_modify hst n _ (fun _ _ => rfl) (fun e _ he => by rw [he] at hkey; exact hkey.symm)⟩, hg _⟩
  ·have hs := stays3 w a
   have hs' : (Instr.keyThatStays (encP a) (encP a)).run Try.prog w = .ok (encP a) w := hs
   simp [Instr.mapUpdate, run_underlying ht, MapKept.run_getObj_map hb, hc, hf, hz, hkey, hs', MapKept.run_setObj_map _ hb, Result.andThen, setBlock]
  ·rw [e3 c, List.map_set, ← hes]
   apply List.ext_getElem?
   intro i
   rw [List.getElem?_map, Array.getElem?_toList, Array.getElem?_modify, List.getElem?_set, List.getElem?_map, Array.getElem?_toList, List.length_map, Array.length_toList]
   by_cases hi : n = i
   ·subst hi
    rw [if_pos rfl, if_pos rfl]
    by_cases hlt2 : n < es.size
    ·rw [if_pos hlt2, Array.getElem?_eq_getElem hlt2]
     rfl
    ·rw [if_neg hlt2, Array.getElem?_eq_none (by omega)]
     rfl
   ·rw [if_neg hi, if_neg hi]
end
end Go.Proofs.Ytflajmgichdhhaa.PG
namespace Go.Proofs.Ytflajmgichdhhaa.PG
open Go.RowKit Go.Proofs.YtflajmgichdhhaaW.PrintWords Go.Proofs.YtflajmgichdhhaaW.PrintLast Go.Proofs.YtflajmgichdhhaaW.PrintMore
set_option linter.unusedVariables false
set_option linter.unusedSimpArgs false
structure DevS where
  stable : List ByteArray
  old : List (List ByteArray)
  pend : List S99
  fences : Int → Option Int
  fset : Bool
  left : Int
  surv : List Int
  failed : Bool
structure Lay where
  g : Nat
  sb : Nat
  ob : Nat
  bm : Nat
def Mut (L : Lay) (pv : Value) (k : Nat) : Prop := k = L.g ∨ k = L.sb ∨ k = L.ob ∨ k = L.bm ∨ some k = pv.ownBlock
def strs (xs : List ByteArray) : Array Value := (xs.map Value.string).toArray
def Fr (L : Lay) (pv : Value) (F : Nat → Prop) (k : Nat) : Prop := F k ∧ ¬ Mut L pv k
def gcells (L : Lay) (pv uv : Value) (S : DevS) : Array Value := #[.slice (some ⟨L.sb, 0, none⟩) S.stable.length S.stable.length, .slice (some ⟨L.ob, 0, none⟩) S.stable.length S.stable.length, pv, .map (some L.bm), .bool S.fset, .int .i64 S.left, uv, .bool S.failed]
structure DevAt (W : World) (B : Nat) (L : Lay) (vs : List Value) (pv uv : Value) (m : Ents) (F : Nat → Prop) (S : DevS) : Prop where
  hg : W.heap[L.g]? = some (.cells (gcells L pv uv S) 81 (0, 0))
  hs : W.heap[L.sb]? = some (.cells (strs S.stable) 9 (0, 0))
  ho : W.heap[L.ob]? = some (.cells vs.toArray 26 (0, 0))
  hvl : vs.length = S.old.length
  hv : ∀ (i : Nat) (v : Value) (x : List ByteArray), vs[i]? = some v → S.old[i]? = some x → Kd.V Kd.string 9 W 0 (Fr L pv F) v x
  hp : Kd.R k99 84 W B F pv S.pend
  hm : MapIs W L.bm m
  hl : ∀ a, look a m = S.fences a
  hu : Kd.V (Kd.int .i64) 3 W 0 (Fr L pv F) uv S.surv
  hF : F L.g ∧ F L.sb ∧ F L.ob ∧ F L.bm
  hr : ∀ k, F k → B ≤ k ∧ k < W.heap.size
def DevIs (W : World) (B : Nat) (L : Lay) (F : Nat → Prop) (S : DevS) : Prop := ∃ vs pv uv m, DevAt W B L vs pv uv m F S
structure Fine (k : Nat) (S : DevS) : Prop where
  len : S.old.length = S.stable.length
  n0 : 1 ≤ S.stable.length
  n1 : S.stable.length ≤ 1155
  size : ∀ s ∈ S.stable, s.size = 140
  olen : ∀ l ∈ S.old, l.length ≤ 8
  osize : ∀ l ∈ S.old, ∀ s ∈ l, s.size = 140
  pend : ∀ w ∈ S.pend, 1 ≤ w.f0 ∧ w.f0 ≤ 4 ∧ 0 ≤ w.f1 ∧ w.f1 < S.stable.length ∧ w.f2.size = 140
  plen : S.pend.length ≤ k
  l0 : 0 ≤ S.left ∧ S.left ≤ 9223372036854775807
def DevPost (B : Nat) (L : Lay) (F : Nat → Prop) (S' : DevS) (W W' : World) : Prop := ∃ F' : Nat → Prop, DevIs W' B L F' S' ∧ (∀ k, F' k → F k ∨ W.heap.size ≤ k) ∧ Kept W W' F ∧ Below B W W'
theorem DevAt.own {W : World} {B : Nat} {L : Lay} {vs : List Value} {pv uv : Value} {m : Ents} {F : Nat → Prop} {S : DevS} (h : DevAt W B L vs pv uv m F S) : ∀ k, Mut L pv k → F k := by
 rintro k (e | e | e | e | e)
 ·rw [e]; exact h.hF.1
 ·rw [e]; exact h.hF.2.1
 ·rw [e]; exact h.hF.2.2.1
 ·rw [e]; exact h.hF.2.2.2
 ·exact h.hp.1 k e.symm
theorem DevAt.move {W W' : World} {B : Nat} {L : Lay} {vs : List Value} {pv uv : Value} {m : Ents} {F : Nat → Prop} {S : DevS} (h : DevAt W B L vs pv uv m F S) (hb : ∀ k, F k → W'.heap[k]? = W.heap[k]?) (hs : W.heap.size ≤ W'.heap.size) : DevAt W' B L vs pv uv m F S :=
  { hg := (hb _ h.hF.1).trans h.hg
    hs := (hb _ h.hF.2.1).trans h.hs
    ho := (hb _ h.hF.2.2.1).trans h.ho
    hvl := h.hvl
    hv := fun i v x h1 h2 => Kd.V_step (h.hv i v x h1 h2) (fun k hk _ => hb k hk.1)
    hp := Kd.R_step h.hp (fun k hk _ => hb k hk)
    hm := h.hm.move (hb _ h.hF.2.2.2)
    hl := h.hl
    hu := Kd.V_step h.hu (fun k hk _ => hb k hk.1)
    hF := h.hF
    hr := fun k hk => ⟨(h.hr k hk).1, by have := (h.hr k hk).2; omega⟩ }
theorem DevAt.below {W W' : World} {B : Nat} {L : Lay} {vs : List Value} {pv uv : Value} {m : Ents} {F : Nat → Prop} {S : DevS} (h : DevAt W B L vs pv uv m F S) (hb : Below W.heap.size W W') : DevAt W' B L vs pv uv m F S :=
 h.move (fun k hk => hb.block k (h.hr k hk).2) hb.size
theorem DevIs.below {W W' : World} {B : Nat} {L : Lay} {F : Nat → Prop} {S : DevS} (h : DevIs W B L F S) (hb : Below W.heap.size W W') : DevIs W' B L F S := by
 obtain ⟨vs, pv, uv, m, h⟩ := h
 exact ⟨vs, pv, uv, m, h.below hb⟩
theorem DevIs.move {W W' : World} {B : Nat} {L : Lay} {F : Nat → Prop} {S : DevS} (h : DevIs W B L F S) (hb : ∀ k, F k → W'.heap[k]? = W.heap[k]?) (hs : W.heap.size ≤ W'.heap.size) : DevIs W' B L F S := by
 obtain ⟨vs, pv, uv, m, h⟩ := h
 exact ⟨vs, pv, uv, m, h.move hb hs⟩
theorem DevIs.range {W : World} {B : Nat} {L : Lay} {F : Nat → Prop} {S : DevS} (h : DevIs W B L F S) : ∀ k, F k → B ≤ k ∧ k < W.heap.size := by
 obtain ⟨vs, pv, uv, m, h⟩ := h
 exact h.hr
theorem DevIs.hB {W : World} {B : Nat} {L : Lay} {F : Nat → Prop} {S : DevS} (h : DevIs W B L F S) : B ≤ W.heap.size := by
 obtain ⟨vs, pv, uv, m, h⟩ := h
 have := h.hr _ h.hF.1
 omega
theorem DevIs.kept {W W' : World} {B : Nat} {L : Lay} {F X : Nat → Prop} {S : DevS} (h : DevIs W B L F S) (hk : Kept W W' X) (hx : ∀ k, F k → ¬ X k) : DevIs W' B L F S :=
 h.move (fun k hF => hk.2 k (h.range k hF).2 (hx k hF)) hk.1
theorem DevIs.lower {W : World} {B B' : Nat} {L : Lay} {F : Nat → Prop} {S : DevS} (h : DevIs W B L F S) (hb : B' ≤ B) : DevIs W B' L F S := by
 obtain ⟨vs, pv, uv, m, h⟩ := h
 exact ⟨vs, pv, uv, m, { h with hp := Kd.R_lower h.hp hb, hr := fun k hk => ⟨Nat.le_trans hb (h.hr k hk).1, (h.hr k hk).2⟩ }⟩
theorem DevPost.same {W W' : World} {B : Nat} {L : Lay} {F : Nat → Prop} {S : DevS} (h : DevIs W B L F S) (hb : Below W.heap.size W W') : DevPost B L F S W W' := ⟨F, h.below hb, fun k z => Or.inl z, Kept.of_below hb F, hb.mono h.hB⟩
theorem DevPost.after {W W1 W2 : World} {B : Nat} {L : Lay} {F : Nat → Prop} {S : DevS} (h : DevPost B L F S W1 W2) (hb : Below W.heap.size W W1) (hB : B ≤ W.heap.size) : DevPost B L F S W W2 := by
 obtain ⟨F', h1, h2, h3, h4⟩ := h
 exact ⟨F', h1, fun k z => (h2 k z).imp id (fun y => Nat.le_trans hb.size y), (Kept.of_below hb F).then_ h3 (fun k z => Or.inl z), (hb.mono hB).trans h4⟩
theorem DevPost.then_ {W W1 W2 : World} {B : Nat} {L : Lay} {F : Nat → Prop} {S1 S2 : DevS} (h : DevPost B L F S1 W W1) (h2 : ∀ F1, DevIs W1 B L F1 S1 → DevPost B L F1 S2 W1 W2) : DevPost B L F S2 W W2 := by
 obtain ⟨F1, a1, a2, a3, a4⟩ := h
 obtain ⟨F2, b1, b2, b3, b4⟩ := h2 F1 a1
 have hs := a3.1
 exact ⟨F2, b1, fun k z => (b2 k z).elim (fun y => a2 k y) (fun y => Or.inr (by omega)), a3.then_ b3 (fun k z => a2 k z), a4.trans b4⟩
theorem DevPost.drewN {W W1 : World} {B : Nat} {L : Lay} {F : Nat → Prop} {S : DevS} (h : DevPost B L F S W W1) (n : Nat) : DevPost B L F S W (W1.drewN n) :=
 h.then_ (fun _ h1 => DevPost.same h1 (pw_below_drewN (Below.refl _ _) n))
theorem below_drewN {B : Nat} {w v : World} (h : Below B w v) (n : Nat) : Below B w (v.drewN n) := ⟨h.os, h.tape, h.output, h.size, h.block⟩
theorem strs_get (xs : List ByteArray) (i : Nat) : (strs xs)[i]? = (xs[i]?).map Value.string := by
 unfold strs
 rw [List.getElem?_toArray, List.getElem?_map]
theorem strs_at (xs : List ByteArray) (i : Nat) (h : i < xs.length) : (strs xs)[i]? = some (.string xs[i]) := by
 rw [strs_get, List.getElem?_eq_getElem h]; rfl
theorem strs_set (xs : List ByteArray) (i : Nat) (s : ByteArray) : (strs xs).setIfInBounds i (.string s) = strs (xs.set i s) := by
 unfold strs
 rw [List.setIfInBounds_toArray, List.map_set]
section
variable {W : World} {B : Nat} {L : Lay} {vs : List Value} {pv uv : Value} {m : Ents} {F : Nat → Prop} {S : DevS}
theorem DevAt.lg (h : DevAt W B L vs pv uv m F S) : L.g < W.heap.size := blk_lt h.hg
theorem DevAt.c0 (h : DevAt W B L vs pv uv m F S) : W.cell? ⟨L.g, 0, none⟩ = some (.slice (some ⟨L.sb, 0, none⟩) S.stable.length S.stable.length) := by rw [blk_cell h.hg]; rfl
theorem DevAt.c1 (h : DevAt W B L vs pv uv m F S) : W.cell? ⟨L.g, 1, none⟩ = some (.slice (some ⟨L.ob, 0, none⟩) S.stable.length S.stable.length) := by rw [blk_cell h.hg]; rfl
theorem DevAt.c2 (h : DevAt W B L vs pv uv m F S) : W.cell? ⟨L.g, 2, none⟩ = some pv := by rw [blk_cell h.hg]; rfl
theorem DevAt.c3 (h : DevAt W B L vs pv uv m F S) : W.cell? ⟨L.g, 3, none⟩ = some (.map (some L.bm)) := by rw [blk_cell h.hg]; rfl
theorem DevAt.c4 (h : DevAt W B L vs pv uv m F S) : W.cell? ⟨L.g, 4, none⟩ = some (.bool S.fset) := by rw [blk_cell h.hg]; rfl
theorem DevAt.c5 (h : DevAt W B L vs pv uv m F S) : W.cell? ⟨L.g, 5, none⟩ = some (.int .i64 S.left) := by rw [blk_cell h.hg]; rfl
theorem DevAt.c6 (h : DevAt W B L vs pv uv m F S) : W.cell? ⟨L.g, 6, none⟩ = some uv := by rw [blk_cell h.hg]; rfl
theorem DevAt.c7 (h : DevAt W B L vs pv uv m F S) : W.cell? ⟨L.g, 7, none⟩ = some (.bool S.failed) := by rw [blk_cell h.hg]; rfl
theorem DevAt.fg (h : DevAt W B L vs pv uv m F S) (o : Nat) : W.frozen? ⟨L.g, o, none⟩ = false := blk_frozen h.hg o
theorem DevAt.cs (h : DevAt W B L vs pv uv m F S) (i : Nat) (hi : i < S.stable.length) : W.cell? ⟨L.sb, i, none⟩ = some (.string S.stable[i]) := by rw [blk_cell h.hs]; exact strs_at _ _ hi
theorem DevAt.co (h : DevAt W B L vs pv uv m F S) (i : Nat) (hi : i < S.old.length) : ∃ A c, W.cell? ⟨L.ob, i, none⟩ = some (.slice A S.old[i].length c) ∧ S.old[i].length ≤ c ∧ Kd.F Kd.string W (Fr L pv F) A S.old[i].length S.old[i] ∧ vs[i]? = some (.slice A S.old[i].length c) := by
 have hi' : i < vs.length := by have := h.hvl; omega
 obtain ⟨A, c, hv, hl, hf⟩ := h.hv i vs[i] S.old[i] (List.getElem?_eq_getElem hi') (List.getElem?_eq_getElem hi)
 refine ⟨A, c, ?_, hl, hf, ?_⟩
 ·rw [blk_cell h.ho, List.getElem?_toArray, List.getElem?_eq_getElem hi', hv]
 ·rw [List.getElem?_eq_getElem hi', hv]
theorem DevAt.pslice (h : DevAt W B L vs pv uv m F S) : ∃ A c, pv = .slice A S.pend.length c ∧ S.pend.length ≤ c ∧ Kd.C k99 W A S.pend.length S.pend := Kd.R_reads h.hp
end
end Go.Proofs.Ytflajmgichdhhaa.PG
namespace Go.Proofs.Ytflajmgichdhhaa.PG
open Go.RowKit Go.Proofs.YtflajmgichdhhaaW.PrintWords Go.Proofs.YtflajmgichdhhaaW.PrintLast Go.Proofs.YtflajmgichdhhaaW.PrintMore
set_option linter.unusedVariables false
set_option linter.unusedSimpArgs false
def inside (S : DevS) (i : Int) : Bool := decide (0 ≤ i ∧ i < (S.stable.length : Int))
section
variable {W : World} {B : Nat} {L : Lay} {vs : List Value} {pv uv : Value} {m : Ents} {F : Nat → Prop} {S : DevS}
set_option maxRecDepth 100000 in
theorem there_yes (hP : DevAt W B L vs pv uv m F S) (i : Int) (h0 : 0 ≤ i) (h1 : i < (S.stable.length : Int)) :
  Calls Try.prog 49 #[.pointer (some ⟨L.g, 0, none⟩), .int .i64 i] W fun e W' => e = .returned (.bool true) ∧ W = W' := by
 have c0 := hP.c0
 have hd0 : decide (0 ≤ i) = true := decide_eq_true h0
 have hd1 : decide (i < (S.stable.length : Int)) = true := decide_eq_true h1
 clear hP
 go_enter Try.func49, Try.ntmps49
 go_wp2_with fail
 go_ret
 exact ⟨rfl, rfl⟩
set_option maxRecDepth 100000 in
theorem there_no (hP : DevAt W B L vs pv uv m F S) (i : Int) (h : ¬ (0 ≤ i ∧ i < (S.stable.length : Int))) :
  Calls Try.prog 49 #[.pointer (some ⟨L.g, 0, none⟩), .int .i64 i] W fun e W' => e = .returned (.bool false) ∧ W = W' := by
 have c0 := hP.c0
 by_cases h0 : 0 ≤ i
 ·have hd0 : decide (0 ≤ i) = true := decide_eq_true h0
  have hd1 : decide (i < (S.stable.length : Int)) = false := decide_eq_false (fun z => h ⟨h0, z⟩)
  clear hP h
  go_enter Try.func49, Try.ntmps49
  go_wp2_with fail
  go_ret
  exact ⟨rfl, rfl⟩
 ·have hd0 : decide (0 ≤ i) = false := decide_eq_false h0
  clear hP h
  go_enter Try.func49, Try.ntmps49
  go_wp2_with fail
  go_ret
  exact ⟨rfl, rfl⟩
set_option maxRecDepth 100000 in
theorem sectors_calls (hP : DevAt W B L vs pv uv m F S) :
  Calls Try.prog 39 #[.pointer (some ⟨L.g, 0, none⟩)] W fun e W' => e = .returned (.int .i64 (S.stable.length : Int)) ∧ W = W' := by
 have c0 := hP.c0
 clear hP
 go_enter Try.func39, Try.ntmps39
 go_wp2_with fail
 go_ret
 exact ⟨rfl, rfl⟩
set_option maxRecDepth 100000 in
theorem failed_calls (hP : DevAt W B L vs pv uv m F S) :
  Calls Try.prog 40 #[.pointer (some ⟨L.g, 0, none⟩)] W fun e W' => e = .returned (.bool S.failed) ∧ W = W' := by
 have c7 := hP.c7
 clear hP
 go_enter Try.func40, Try.ntmps40
 go_wp2_with fail
 go_ret
 exact ⟨rfl, rfl⟩
def oldN (S : DevS) (i : Int) : Int := if 0 ≤ i ∧ i < (S.stable.length : Int) then ((S.old.getD i.toNat []).length : Int) else 0
set_option maxRecDepth 100000 in
theorem old_calls (hP : DevAt W B L vs pv uv m F S) (hlen : S.old.length = S.stable.length) (i : Int) :
  Calls Try.prog 25 #[.pointer (some ⟨L.g, 0, none⟩), .int .i64 i] W fun e W' => e = .returned (.int .i64 (oldN S i)) ∧ W = W' := by
 unfold oldN
 by_cases h : 0 ≤ i ∧ i < (S.stable.length : Int)
 ·rw [if_pos h]
  obtain ⟨h0, h1⟩ := h
  have HT := Aside0.mk (there_yes hP i h0 h1)
  obtain ⟨n, rfl⟩ := Int.eq_ofNat_of_zero_le h0
  have hn : n < S.old.length := by omega
  obtain ⟨A, c, co, hxx⟩ := hP.co n hn
  rw [Int.toNat_natCast, List.getD_eq_getElem?_getD, List.getElem?_eq_getElem hn, Option.getD_some]
  have hlz : ((n : Nat) : Int) < (S.stable.length : Int) := h1
  have hln : n < S.stable.length := by omega
  have c1 := hP.c1
  obtain ⟨x, hx⟩ : ∃ x, x = S.old[n] := ⟨_, rfl⟩
  rw [← hx] at co ⊢
  clear hP hlen hxx hx hn
  go_enter Try.func25, Try.ntmps25
  go_wp2_with fail
  refine HT.out.mono ?_
  rintro e W2 ⟨rfl, rfl⟩
  go_wp2_with fail
  go_ret
  exact ⟨rfl, rfl⟩
 ·rw [if_neg h]
  have HT := Aside0.mk (there_no hP i h)
  clear hP hlen h
  go_enter Try.func25, Try.ntmps25
  go_wp2_with fail
  refine HT.out.mono ?_
  rintro e W2 ⟨rfl, rfl⟩
  go_wp2_with fail
  go_ret
  exact ⟨rfl, rfl⟩
end
def lastOf (i : Int) : List S99 → Option ByteArray
  | [] => none
  | w :: ws => match lastOf i ws with | some d => some d | none => if w.f1 = i then some w.f2 else none
theorem lastOf_snoc (i : Int) (w : S99) : ∀ ws : List S99, lastOf i (ws ++ [w]) = if w.f1 = i then some w.f2 else lastOf i ws
 | [] => by
  show (match lastOf i [] with | some d => some d | none => _) = _
  rfl
 | x :: ws => by
  rw [List.cons_append]
  show (match lastOf i (ws ++ [w]) with | some d => some d | none => _) = _
  rw [lastOf_snoc i w ws]
  by_cases h : w.f1 = i
  ·rw [if_pos h, if_pos h]
  ·rw [if_neg h, if_neg h]
   rfl
theorem lastOf_step (i : Int) (ws : List S99) (j : Nat) (h : j < ws.length) : lastOf i (ws.take (j + 1)) = if ws[j].f1 = i then some ws[j].f2 else lastOf i (ws.take j) := by
 rw [List.take_succ_eq_append_getElem h, lastOf_snoc]
def contentS (S : DevS) (i : Int) : ByteArray := (lastOf i S.pend).getD (S.stable.getD i.toNat ⟨#[]⟩)
def readS (S : DevS) (i : Int) : ByteArray × Int := if 0 ≤ i ∧ i < (S.stable.length : Int) then (if S.failed = true then (⟨#[]⟩, 10) else (contentS S i, 0)) else (⟨#[]⟩, 2)
theorem rdT99_at (xs : List S99) (i : Nat) (h : i < xs.length) : rd_T99 xs (i : Int) = xs[i] := by
 unfold rd_T99
 rw [Int.toNat_natCast, List.getD_eq_getElem?_getD, List.getElem?_eq_getElem h]
 rfl
section
variable {W : World} {B : Nat} {L : Lay} {vs : List Value} {pv uv : Value} {m : Ents} {F : Nat → Prop} {S : DevS}
set_option maxRecDepth 100000 in
theorem read_calls (hP : DevAt W B L vs pv uv m F S) (hpl : S.pend.length ≤ 1000000) (i : Int) :
  Calls Try.prog 23 #[.pointer (some ⟨L.g, 0, none⟩), .int .i64 i] W fun e W' => e = .returned (.tuple #[.string (readS S i).1, .int .i64 (readS S i).2]) ∧ W = W' := by
 unfold readS
 by_cases h : 0 ≤ i ∧ i < (S.stable.length : Int)
 ·rw [if_pos h]
  obtain ⟨h0, h1⟩ := h
  have HT := Aside0.mk (there_yes hP i h0 h1)
  have c7 := hP.c7
  cases hf : S.failed with
  | true =>
   rw [if_pos rfl]
   rw [hf] at c7
   clear hP hf
   go_enter Try.func23, Try.ntmps23
   go_wp2_with fail
   refine HT.out.mono ?_
   rintro e W2 ⟨rfl, rfl⟩
   go_wp2_with fail
   go_ret2
   exact ⟨rfl, rfl⟩
  | false =>
   rw [if_neg (by simp)]
   rw [hf] at c7
   obtain ⟨n, rfl⟩ := Int.eq_ofNat_of_zero_le h0
   have hn : n < S.stable.length := by omega
   have c0 := hP.c0
   have c2 := hP.c2
   have cs := hP.cs n hn
   obtain ⟨A, c, hpv, hpc, hC⟩ := hP.pslice
   subst hpv
   have hst : S.stable.getD n ⟨#[]⟩ = S.stable[n] := by rw [List.getD_eq_getElem?_getD, List.getElem?_eq_getElem hn]; rfl
   have HST := Aside0.mk hst
   obtain ⟨x, hx⟩ : ∃ x, x = S.stable[n] := ⟨_, rfl⟩
   rw [← hx] at cs HST
   have HC := Aside0.mk hC
   have hn' := Aside0.mk hn
   clear hP hf hC hst hx hn
   go_enter Try.func23, Try.ntmps23
   go_wp2_with fail
   refine HT.out.mono ?_
   rintro e W2 ⟨rfl, rfl⟩
   go_wp2_with fail
   go_loop [6] (fun t => ∃ k : Nat, t = .int .i64 ((k : Int) - 1) ∧ k ≤ S.pend.length ∧ Aside0 (lastOf n S.pend = lastOf n (S.pend.take k))) (fun t => (intOf t + 1).toNat)
   case atStart => exact ⟨S.pend.length, rfl, Nat.le_refl _, ⟨by rw [List.take_length]⟩⟩
   case round =>
    obtain ⟨k, rfl, hk, HL⟩ := hrel
    cases k with
    | zero =>
     rw [show (((0 : Nat) : Int) - 1) = -1 from rfl]
     have hn2 := hn'.out
     go_wp2_with fail
     go_ret2
     refine ⟨?_, rfl⟩
     have e := HL.out
     unfold contentS
     rw [e, List.take_zero, Int.toNat_natCast, HST.out]
     rfl
    | succ j =>
     rw [show (((j + 1 : Nat) : Int) - 1) = (j : Int) from by omega]
     have hjl : (j : Int) < (S.pend.length : Int) := by omega
     obtain ⟨ad, e, q0, q1, q2⟩ := at_T99 HC.out (j : Int) (by omega) hjl
     rw [rdT99_at _ j (by omega)] at q0 q1 q2
     cases e
     rw [Int.toNat_natCast] at q0 q1 q2
     have hs := lastOf_step n S.pend j (by omega)
     obtain ⟨w, hw⟩ : ∃ w, w = S.pend[j]'(by omega) := ⟨_, rfl⟩
     rw [← hw] at q0 q1 q2 hs
     have HS := Aside0.mk hs
     clear hs hw
     by_cases hq : w.f1 = (n : Int)
     ·have hb : (w.f1 == (n : Int)) = true := by rw [hq]; simp
      have HQ := Aside0.mk hq
      clear hq
      go_wp2_with fail
      go_ret2
      refine ⟨?_, rfl⟩
      have e1 := HL.out
      have e2 := HS.out
      rw [if_pos HQ.out] at e2
      unfold contentS
      rw [e1, e2]
      rfl
     ·have hb : (w.f1 == (n : Int)) = false := by simpa using hq
      have HQ := Aside0.mk hq
      clear hq
      go_wp2_with fail
      go_round
      case rel =>
       refine ⟨j, rfl, by omega, ⟨?_⟩⟩
       rw [HL.out, HS.out, if_neg HQ.out]
      case measure => simp [intOf]
 ·rw [if_neg h]
  have HT := Aside0.mk (there_no hP i h)
  clear hP h
  go_enter Try.func23, Try.ntmps23
  go_wp2_with fail
  refine HT.out.mono ?_
  rintro e W2 ⟨rfl, rfl⟩
  go_wp2_with fail
  go_ret2
  exact ⟨rfl, rfl⟩
end
end Go.Proofs.Ytflajmgichdhhaa.PG
namespace Go.Proofs.Ytflajmgichdhhaa.PG
open Go.RowKit Go.Proofs.YtflajmgichdhhaaW.PrintWords Go.Proofs.YtflajmgichdhhaaW.PrintLast Go.Proofs.YtflajmgichdhhaaW.PrintMore
set_option linter.unusedVariables false
set_option linter.unusedSimpArgs false
attribute [local go_sem] max2_int min2_int max_two min_two
theorem bytes_yes {x y : ByteArray} (h : x = y) : (x.toList == y.toList) = true := by rw [h]; simp
theorem bytes_no {x y : ByteArray} (h : ¬ x = y) : (x.toList == y.toList) = false := by
 refine beq_eq_false_iff_ne.2 (fun z => h ?_)
 rw [ByteArray.toList_eq, ByteArray.toList_eq] at z
 exact ByteArray.ext (Array.toList_inj.mp z)
theorem stopHere {p : Prop} (h : Aside0 p) : p := h.out
def changeS (n : Nat) (d : ByteArray) (S : DevS) : DevS :=
  if S.stable.getD n ⟨#[]⟩ = d then S else { S with stable := S.stable.set n d, old := S.old.set n ((S.stable.getD n ⟨#[]⟩ :: S.old.getD n []).take 8) }
def ChPost (B : Nat) (L : Lay) (pv uv : Value) (m : Ents) (F : Nat → Prop) (S' : DevS) (W W' : World) : Prop := ∃ vs' F', DevAt W' B L vs' pv uv m F' S' ∧ (∀ k, F' k → F k ∨ W.heap.size ≤ k) ∧ Kept W W' (fun k => k = L.sb ∨ k = L.ob) ∧ Below B W W'
theorem MapIs.ne {W : World} {b k : Nat} {m : Ents} {cs : Array Value} {t : TypeId} (h : MapIs W b m) (hk : W.heap[k]? = some (.cells cs t (0, 0))) : k ≠ b := by
 obtain ⟨es, c, hb, _⟩ := h
 rintro rfl
 rw [hk] at hb
 cases hb
theorem DevAt.change {W w2 : World} {B : Nat} {L : Lay} {vs : List Value} {pv uv : Value} {m : Ents} {F : Nat → Prop} {S : DevS} (h : DevAt W B L vs pv uv m F S) (hb : Below W.heap.size W w2) (n : Nat) (v : Value) (y : List ByteArray)
  (hv : Kd.V Kd.string 9 w2 0 (fun k => W.heap.size ≤ k) v y) (d : ByteArray) :
  ChPost B L pv uv m F { S with stable := S.stable.set n d, old := S.old.set n y } W ((w2.setCell ⟨L.ob, n, none⟩ v).setCell ⟨L.sb, n, none⟩ (.string d)) := by
 have h2 := h.below hb
 have hne : L.ob ≠ L.sb := blk_ne h.ho h.hs (by decide)
 have hgo : L.g ≠ L.ob := blk_ne h.hg h.ho (by decide)
 have hgs : L.g ≠ L.sb := blk_ne h.hg h.hs (by decide)
 have hsz : ((w2.setCell ⟨L.ob, n, none⟩ v).setCell ⟨L.sb, n, none⟩ (.string d)).heap.size = w2.heap.size := by simp [World.setCell]
 have hfar : ∀ k, k ≠ L.ob → k ≠ L.sb → ((w2.setCell ⟨L.ob, n, none⟩ v).setCell ⟨L.sb, n, none⟩ (.string d)).heap[k]? = w2.heap[k]? := fun k h1 h2 => (Below.heap_setCell _ _ _ _ h2).trans (Below.heap_setCell _ _ _ _ h1)
 have hps : ∀ k, pv.ownBlock = some k → k ≠ L.ob ∧ k ≠ L.sb := fun k hk => by
  obtain ⟨inner, ho⟩ := Kd.R_own h.hp
  obtain ⟨cells, hc⟩ := own_typed ho k hk
  exact ⟨blk_ne hc h.ho (by decide), blk_ne hc h.hs (by decide)⟩
 have hmo : L.bm ≠ L.ob ∧ L.bm ≠ L.sb := ⟨fun e => h.hm.ne h.ho e.symm, fun e => h.hm.ne h.hs e.symm⟩
 have hsz2 := hb.size
 refine ⟨vs.set n v, fun k => F k ∨ (W.heap.size ≤ k ∧ k < w2.heap.size), { hg := ?_, hs := ?_, ho := ?_, hvl := ?_, hv := ?_, hp := ?_, hm := ?_, hl := h.hl, hu := ?_, hF := ⟨Or.inl h.hF.1, Or.inl h.hF.2.1, Or.inl h.hF.2.2.1, Or.inl h.hF.2.2.2⟩, hr := ?_ }, fun k hk => hk.imp id (fun z => z.1), ?_, ?_⟩
 ·refine (hfar _ hgo hgs).trans (h2.hg.trans ?_)
  unfold gcells
  simp only [List.length_set]
 ·exact blk_put ((Below.heap_setCell _ _ _ _ (fun e => hne e.symm)).trans h2.hs) n _ (strs_set _ _ _)
 ·exact (Below.heap_setCell _ _ _ _ hne).trans (blk_put h2.ho n v (by rw [List.setIfInBounds_toArray]))
 ·simp only [List.length_set]; exact h.hvl
 ·intro i v' x' h1 h3
  simp only [List.getElem?_set] at h1 h3
  by_cases e : n = i
  ·rw [if_pos e] at h1 h3
   split at h1
   ·split at h3
    ·cases h1
     cases h3
     have hv1 : Kd.V Kd.string 9 w2 0 (Fr L pv (fun k => F k ∨ (W.heap.size ≤ k ∧ k < w2.heap.size))) v y := Kd.V_mono (Kd.V_bound hv) (fun k hk => ⟨Or.inr hk, fun hm => by
      have := (h.hr k (h.own k hm)).2
      have := hk.1
      omega⟩)
     exact Kd.V_step hv1 (fun k hk _ => hfar k (fun e => hk.2 (Or.inr (Or.inr (Or.inl e)))) (fun e => hk.2 (Or.inr (Or.inl e))))
    ·cases h3
   ·cases h1
  ·rw [if_neg e] at h1 h3
   exact Kd.V_mono (Kd.V_step (h2.hv i v' x' h1 h3) (fun k hk _ => hfar k (fun e => hk.2 (Or.inr (Or.inr (Or.inl e)))) (fun e => hk.2 (Or.inr (Or.inl e))))) (fun k hk => ⟨Or.inl hk.1, hk.2⟩)
 ·exact Kd.R_mono (Kd.R_step (Kd.R_tight2 rfl h2.hp) (fun k hk _ => hfar k (hps k hk.1.symm).1 (hps k hk.1.symm).2)) (fun k hk => Or.inl hk.2)
 ·exact h2.hm.move (hfar _ hmo.1 hmo.2)
 ·exact Kd.V_mono (Kd.V_step h2.hu (fun k hk _ => hfar k (fun e => hk.2 (Or.inr (Or.inr (Or.inl e)))) (fun e => hk.2 (Or.inr (Or.inl e))))) (fun k hk => ⟨Or.inl hk.1, hk.2⟩)
 ·rintro k (hk | hk)
  ·rw [hsz]; have := h.hr k hk; exact ⟨this.1, by omega⟩
  ·rw [hsz]; have := h.hr _ h.hF.1; exact ⟨by omega, hk.2⟩
 ·exact ((Kept.of_below hb _).setCell (Or.inl (Or.inr rfl)) v).setCell (Or.inl (Or.inl rfl)) _
 ·have hB : B ≤ W.heap.size := by have := h.hr _ h.hF.1; omega
  exact ((hb.mono hB).setCell (h.hr _ h.hF.2.2.1).1 v).setCell (h.hr _ h.hF.2.1).1 _
theorem ChPost.drew {B : Nat} {L : Lay} {pv uv : Value} {m : Ents} {F : Nat → Prop} {S : DevS} {W W' : World} (h : ChPost B L pv uv m F S W W') : ChPost B L pv uv m F S W W'.drew := by
 obtain ⟨vs, F', h1, h2, h3, h4⟩ := h
 exact ⟨vs, F', h1.move (fun _ _ => rfl) (Nat.le_refl _), h2, h3.drew, h4.drew⟩
section
variable {W : World} {B : Nat} {L : Lay} {vs : List Value} {pv uv : Value} {m : Ents} {F : Nat → Prop} {S : DevS}
set_option maxRecDepth 100000 in
theorem change_calls (hP : DevAt W B L vs pv uv m F S) (hlen : S.old.length = S.stable.length) (hol : ∀ l ∈ S.old, l.length ≤ 8) (n : Nat) (hn : n < S.stable.length) (d : ByteArray) :
  Calls Try.prog 60 #[.pointer (some ⟨L.g, 0, none⟩), .int .i64 n, .string d] W fun e W' => e = .returned (.tuple #[]) ∧ ChPost B L pv uv m F (changeS n d S) W W' := by
 unfold changeS
 have hno : n < S.old.length := by omega
 have hst : S.stable.getD n ⟨#[]⟩ = S.stable[n] := by rw [List.getD_eq_getElem?_getD, List.getElem?_eq_getElem hn]; rfl
 have hso : S.old.getD n [] = S.old[n] := by rw [List.getD_eq_getElem?_getD, List.getElem?_eq_getElem hno]; rfl
 have c0 := hP.c0
 have c1 := hP.c1
 have cs := hP.cs n hn
 obtain ⟨A, c, co, hlc, hfo, hvn⟩ := hP.co n hno
 have hl8 : S.old[n].length ≤ 8 := hol _ (List.getElem_mem _)
 have hnz : ((n : Nat) : Int) < (S.stable.length : Int) := by omega
 have hrg := hP.hr _ hP.hF.1
 have hrs := hP.hr _ hP.hF.2.1
 have hro := hP.hr _ hP.hF.2.2.1
 have lg := hrg.2
 have ls := hrs.2
 have lo := hro.2
 rw [hst, hso]
 obtain ⟨x, hx⟩ : ∃ x, x = S.stable[n] := ⟨_, rfl⟩
 obtain ⟨y, hy⟩ : ∃ y, y = S.old[n] := ⟨_, rfl⟩
 rw [← hx] at cs ⊢
 rw [← hy] at co hlc hfo hvn hl8 ⊢
 have HP := Aside0.mk hP
 by_cases h : x = d
 ·rw [if_pos h]
  have hb : (x.toList == d.toList) = true := bytes_yes h
  clear hP hlen hol hn hno hst hso hx hy hfo hvn h
  go_enter Try.func60, Try.ntmps60
  go_wp2_with fail
  refine bodyPost_ret (results_none rfl _ _ _) rfl ?_
  exact ⟨rfl, vs, F, HP.out, fun k z => Or.inl z, Kept.refl _ _, Below.refl _ _⟩
 ·rw [if_neg h]
  have hb : (x.toList == d.toList) = false := bytes_no h
  have HFO := Aside0.mk hfo
  have HC := Aside0.mk (Kd.F_now hfo)
  have HVN := Aside0.mk hvn
  have HN := Aside0.mk hn
  clear hP hlen hol hn hno hst hso hx hy hfo hvn h
  go_enter Try.func60, Try.ntmps60
  go_wp2_with (first | ((with_reducible refine gate_dst (N := 19) rfl ?_); refine Kd.R_lit Kd.string (w0 := W) W.heap.size 9 ?hg (N := 19) ?hd (xs := [x]) (inner := [.string x]) (ok := fun k => W.heap.size ≤ k) (okp := fun _ => False) ?hr ?hp (fun _ hk => hk.elim) (Nat.le_refl _) (Below.refl _ _) (Nat.le_refl _) (by simp) ?_; (case hd => rfl); (case hg => rfl); (case hr => first | (go_simp; done) | (go_simp; rfl)); (case hp => exact Reps.one (show [Value.string x] = [Value.string x] from rfl) (Reps.none _ _)); intro v1 w1 hR1 hb1 hg1 hnew1; have k0 := (hb1.cell (p := ⟨L.g, 0, none⟩) lg).trans c0; have k1 := (hb1.cell (p := ⟨L.g, 1, none⟩) lg).trans c1; have ko := (hb1.cell (p := ⟨L.ob, n, none⟩) lo).trans co; have HR1 := Aside0.mk hR1; have HB1 := Aside0.mk hb1; have HG1 := Aside0.mk hg1; have HNEW1 := Aside0.mk hnew1; clear hR1 hb1 hg1 hnew1) | (at_builtin; with_reducible refine stopHere ?_))
  refine ⟨?_⟩
  refine Kd.R_append_rows Kd.string (w0 := W) W.heap.size rfl (.tmp 19) (.tmp 26) 26 9 (.string ⟨#[]⟩) 16 rfl Try.underlying26 info9 rfl (by decide) (by omega) v1 [x] y A y.length c (fun k => W.heap.size ≤ k) (fun _ => False) rfl rfl HR1.out (Kd.C_below HC.out HB1.out) (fun _ _ h => h) (fun _ h => h.elim) (fun k hk => Nat.le_trans HB1.out.size hk) HB1.out HB1.out.size (by show (1 + y.length) * 16 ≤ _; omega) ?_
  intro v2 w2 hR2 hb2 hg2 hat2
  obtain ⟨l, hl⟩ : ∃ l, l = [x] ++ y := ⟨_, rfl⟩
  rw [← hl] at hR2
  have hl1 : l.length ≤ 9 := by rw [hl]; simp; omega
  obtain ⟨A2, c2, hv2, hl2, hC2⟩ := Kd.R_reads hR2
  subst hv2
  have k0 := (hb2.cell (p := ⟨L.g, 0, none⟩) lg).trans c0
  have k1 := (hb2.cell (p := ⟨L.g, 1, none⟩) lg).trans c1
  have ko := (hb2.cell (p := ⟨L.ob, n, none⟩) lo).trans co
  have HL := Aside0.mk hl
  have HR2 := Aside0.mk hR2
  have HB2 := Aside0.mk hb2
  have HG2 := Aside0.mk hg2
  have HAT2 := Aside0.mk hat2
  have hP2 := HP.out.below hb2
  have ks := hP2.cs n HN.out
  have fo : w2.frozen? ⟨L.ob, n, none⟩ = false := blk_frozen hP2.ho n
  have fs : w2.frozen? ⟨L.sb, n, none⟩ = false := blk_frozen hP2.hs n
  have ne1 : L.ob ≠ L.sb := blk_ne hP2.ho hP2.hs (by decide)
  have ne2 : L.sb ≠ L.ob := fun e => ne1 e.symm
  have ne3 : L.g ≠ L.ob := blk_ne hP2.hg hP2.ho (by decide)
  have ne4 : L.ob ≠ L.g := fun e => ne3 e.symm
  have HF2 := Aside0.mk (Kd.R_F hR2)
  clear hl hR2 hb2 hg2 hat2 hC2 hP2
  by_cases h8 : (8 : Int) < (l.length : Int)
  ·have h82 : (8 : Int) ≤ (c2 : Int) := by omega
   go_wp2_with fail
   go_region
   go_wp2_with fail
   go_end0
   have hl := HL.out
   have e8 : (x :: y).take 8 = l.take 8 := by rw [hl]; rfl
   rw [e8]
   have e9 : (l.take 8).length = 8 := by rw [List.length_take]; omega
   have hv : Kd.V Kd.string 9 w2 0 (fun k => W.heap.size ≤ k) (.slice A2 8 c2) (l.take 8) := ⟨A2, c2, by rw [e9], by omega, Kd.F_take HF2.out (by omega)⟩
   exact ⟨rfl, (HP.out.change HB2.out n _ _ hv d).drew⟩
  ·have h9 : (l.length : Int) ≤ (c2 : Int) := by omega
   go_wp2_with fail
   go_region
   go_wp2_with fail
   go_end0
   have hl := HL.out
   have e8 : (x :: y).take 8 = l := by rw [show x :: y = l from hl.symm]; exact List.take_of_length_le (by omega)
   rw [e8]
   have hv : Kd.V Kd.string 9 w2 0 (fun k => W.heap.size ≤ k) (.slice A2 l.length c2) l := ⟨A2, c2, rfl, by omega, HF2.out⟩
   exact ⟨rfl, (HP.out.change HB2.out n _ _ hv d).drew⟩
end
end Go.Proofs.Ytflajmgichdhhaa.PG
namespace Go.Proofs.Ytflajmgichdhhaa.PG
open Go.RowKit Go.Proofs.YtflajmgichdhhaaW.PrintWords Go.Proofs.YtflajmgichdhhaaW.PrintLast Go.Proofs.YtflajmgichdhhaaW.PrintMore
set_option linter.unusedVariables false
set_option linter.unusedSimpArgs false
def RowAt (W : World) (rb cap : Nat) (ys : List S99) : Prop :=
  ∃ cur : Array Value, W.heap[rb]? = some (.cells cur 84 (0, 0)) ∧ cur.size = cap * 3 ∧ ys.length ≤ cap ∧ ∀ (j : Nat) (h : j < ys.length), cur[j * 3]? = some (.int .i64 ys[j].f0) ∧ cur[j * 3 + 1]? = some (.int .i64 ys[j].f1) ∧ cur[j * 3 + 2]? = some (.string ys[j].f2)
def rowCells (ys : List S99) : List Value := ys.flatMap fun a => [.int .i64 a.f0, .int .i64 a.f1, .string a.f2]
theorem rowCells_length (ys : List S99) : (rowCells ys).length = ys.length * 3 := by
 induction ys with
 | nil => rfl
 | cons a ys ih => unfold rowCells at ih ⊢; rw [List.flatMap_cons, List.length_append, ih, List.length_cons]; simp; omega
theorem rowCells_get : ∀ (ys : List S99) (j : Nat), (rowCells ys)[j * 3]? = (ys[j]?).map (fun a => Value.int .i64 a.f0) ∧ (rowCells ys)[j * 3 + 1]? = (ys[j]?).map (fun a => Value.int .i64 a.f1) ∧ (rowCells ys)[j * 3 + 2]? = (ys[j]?).map (fun a => Value.string a.f2)
 | [], j => by simp [rowCells]
 | a :: ys, 0 => by simp [rowCells]
 | a :: ys, j + 1 => by
  have ih := rowCells_get ys j
  unfold rowCells at ih ⊢
  rw [List.flatMap_cons]
  rw [show (j + 1) * 3 = j * 3 + 1 + 1 + 1 from by omega, show j * 3 + 1 + 1 + 1 + 1 = (j * 3 + 1) + 1 + 1 + 1 from rfl, show j * 3 + 1 + 1 + 1 + 2 = (j * 3 + 2) + 1 + 1 + 1 from rfl]
  simpa using ih
theorem RowAt.of_R {W : World} {B rb n cap : Nat} {ok : Nat → Prop} {xs : List S99} (h : Kd.R k99 84 W B ok (.slice (some ⟨rb, 0, none⟩) n cap) xs) : n = xs.length ∧ RowAt W rb cap xs ∧ B ≤ rb ∧ cap ≤ maxLen := by
 obtain ⟨A, c, hv, hle, hC⟩ := Kd.R_reads h
 injection hv with h1 h2 h3
 subst h2
 subst h3
 obtain ⟨_, inner, ho, hr⟩ := h
 rcases ho.2 with ⟨hz, _⟩ | ⟨g, cap', cur, he, hb, hh, hn, hm, hs, ht⟩
 ·cases hz
 ·injection he with e1 e2 e3
  injection e1 with e1
  injection e1 with e1 _ _
  subst e1
  subst e3
  refine ⟨rfl, ⟨cur, hh, hs, hn, fun j hj => ?_⟩, hb, hm⟩
  obtain ⟨ad, e, q0, q1, q2⟩ := at_T99 hC (j : Int) (by omega) (by omega)
  rw [rdT99_at xs j hj] at q0 q1 q2
  rw [← h1] at e
  cases e
  rw [Int.toNat_natCast, add_plain, blk_cell hh] at q0
  rw [Int.toNat_natCast, add_plain, blk_cell hh] at q1
  rw [Int.toNat_natCast, add_plain, blk_cell hh] at q2
  exact ⟨q0, q1, q2⟩
theorem RowAt.toR {W : World} {B rb cap : Nat} {ok : Nat → Prop} {xs : List S99} (h : RowAt W rb cap xs) (hB : B ≤ rb) (hm : cap ≤ maxLen) (hok : ok rb) : Kd.R k99 84 W B ok (.slice (some ⟨rb, 0, none⟩) xs.length cap) xs := by
 obtain ⟨cur, hh, hs, hn, hc⟩ := h
 refine ⟨fun k hk => ?_, rowCells xs, ⟨rowCells_length xs, Or.inr ⟨rb, cap, cur, rfl, hB, hh, hn, hm, hs, ?_⟩⟩, ?_⟩
 ·simp [Value.ownBlock] at hk
  subst hk
  exact hok
 ·show cur.toList.take (xs.length * 3) = rowCells xs
  apply List.ext_getElem?
  intro i
  rw [List.getElem?_take, Array.getElem?_toList]
  have hg := rowCells_get xs (i / 3)
  by_cases hi : i < xs.length * 3
  ·rw [if_pos hi]
   have hj : i / 3 < xs.length := by omega
   have hcj := hc (i / 3) hj
   rw [List.getElem?_eq_getElem hj] at hg
   have e3 : i % 3 = 0 ∨ i % 3 = 1 ∨ i % 3 = 2 := by omega
   rcases e3 with e | e | e
   ·rw [show i / 3 * 3 = i from by omega] at hcj hg
    rw [hcj.1, hg.1]; rfl
   ·rw [show i / 3 * 3 + 1 = i from by omega] at hcj hg
    rw [hcj.2.1, hg.2.1]; rfl
   ·rw [show i / 3 * 3 + 2 = i from by omega] at hcj hg
    rw [hcj.2.2, hg.2.2]; rfl
  ·rw [if_neg hi]
   exact (List.getElem?_eq_none (by rw [rowCells_length]; omega)).symm
 ·refine ⟨by rw [rowCells_length]; rfl, fun j a hj => ?_⟩
  have hg := rowCells_get xs j
  rw [hj] at hg
  have e : ((rowCells xs).drop (j * k99.sz)).take k99.sz = [.int .i64 a.f0, .int .i64 a.f1, .string a.f2] := by
   show ((rowCells xs).drop (j * 3)).take 3 = _
   apply List.ext_getElem?
   intro i
   rw [List.getElem?_take, List.getElem?_drop]
   match i with
   | 0 => simpa using hg.1
   | 1 => simpa using hg.2.1
   | 2 => simpa using hg.2.2
   | i + 3 => rw [if_neg (by omega)]; rfl
  rw [e]
  exact k99_mkM W B _ a
theorem RowAt.lt {W : World} {rb cap : Nat} {ys : List S99} (h : RowAt W rb cap ys) : rb < W.heap.size := by obtain ⟨cur, hh, _⟩ := h; exact blk_lt hh
theorem RowAt.move {W W' : World} {rb cap : Nat} {ys : List S99} (h : RowAt W rb cap ys) (hb : W'.heap[rb]? = W.heap[rb]?) : RowAt W' rb cap ys := by obtain ⟨cur, hh, r⟩ := h; exact ⟨cur, hb.trans hh, r⟩
theorem RowAt.le {W : World} {rb cap : Nat} {ys : List S99} (h : RowAt W rb cap ys) : ys.length ≤ cap := by obtain ⟨cur, hh, _, r, _⟩ := h; exact r
theorem RowAt.cells {W : World} {rb cap : Nat} {ys : List S99} (h : RowAt W rb cap ys) (j : Nat) (hj : j < ys.length) : W.cell? ⟨rb, j * 3, none⟩ = some (.int .i64 ys[j].f0) ∧ W.cell? ⟨rb, j * 3 + 1, none⟩ = some (.int .i64 ys[j].f1) ∧ W.cell? ⟨rb, j * 3 + 2, none⟩ = some (.string ys[j].f2) := by
 obtain ⟨cur, hh, _, _, hc⟩ := h
 rw [blk_cell hh, blk_cell hh, blk_cell hh]
 exact hc j hj
theorem RowAt.free {W : World} {rb cap : Nat} {ys : List S99} (h : RowAt W rb cap ys) (o : Nat) : W.frozen? ⟨rb, o, none⟩ = false := by
 obtain ⟨cur, hh, _⟩ := h
 exact blk_frozen hh o
theorem RowAt.set {W : World} {rb cap : Nat} {ys : List S99} (h : RowAt W rb cap ys) (i : Nat) (hi : i < ys.length) (a : S99) :
  RowAt (((W.setCell ⟨rb, i * 3, none⟩ (.int .i64 a.f0)).setCell ⟨rb, i * 3 + 1, none⟩ (.int .i64 a.f1)).setCell ⟨rb, i * 3 + 2, none⟩ (.string a.f2)) rb cap (ys.set i a) := by
 obtain ⟨cur, hh, hs, hn, hc⟩ := h
 refine ⟨_, blk_set (blk_set (blk_set hh _ _) _ _) _ _, by simp [hs], by simpa using hn, fun j hj => ?_⟩
 rw [List.length_set] at hj
 have hcj := hc j hj
 simp only [Array.getElem?_setIfInBounds, Array.size_setIfInBounds]
 by_cases e : i = j
 ·subst e
  rw [if_neg (by omega), if_neg (by omega), if_pos rfl, if_pos (by omega), if_neg (by omega), if_pos rfl, if_pos (by omega), if_pos rfl, if_pos (by omega)]
  simp
 ·rw [if_neg (by omega), if_neg (by omega), if_neg (by omega), if_neg (by omega), if_neg (by omega), if_neg (by omega), if_neg (by omega), if_neg (by omega), if_neg (by omega)]
  rw [List.getElem_set_ne e]
  exact hcj
theorem RowAt.cut {W : World} {rb cap : Nat} {ys : List S99} (h : RowAt W rb cap ys) (i : Nat) (vs : List Value) (hi : i ≤ ys.length) (hv : i * 3 + vs.length ≤ cap * 3) : RowAt (W.setCells rb (i * 3) vs) rb cap (ys.take i) := by
 obtain ⟨cur, hh, hs, hn, hc⟩ := h
 obtain ⟨cur', hrow, hsz, hl⟩ := setCells_row vs (i * 3) W cur hh (by omega)
 have hlen : cur.toList.length = cap * 3 := by rw [Array.length_toList]; exact hs
 refine ⟨cur', hrow, by omega, by rw [List.length_take]; omega, fun j hj => ?_⟩
 rw [List.length_take] at hj
 have hcj := hc j (by omega)
 have g : ∀ q, q < i * 3 → cur'[q]? = cur[q]? := by
  intro q hq
  rw [← Array.getElem?_toList, ← Array.getElem?_toList, hl, List.append_assoc, List.getElem?_append_left (by rw [List.length_take]; omega), List.getElem?_take_of_lt hq]
 rw [List.getElem_take, g _ (by omega), g _ (by omega), g _ (by omega)]
 exact hcj
theorem zero84 (w : World) : (zeroValue 84).run Try.prog w = .ok (.agg #[.int .i64 0, .int .i64 0, .string ⟨#[]⟩]) w := by kernel_rfl
theorem zeroCells_one (n : Nat) : ∀ v ∈ (Builtin.zeroCells #[.int .i64 0, .int .i64 0, .string ⟨#[]⟩] n).toList, v.oneCell' = true := by
 intro v hv
 unfold Builtin.zeroCells at hv
 simp at hv
 obtain ⟨i, hi, rfl⟩ := hv
 have e3 : i % 3 = 0 ∨ i % 3 = 1 ∨ i % 3 = 2 := by omega
 rcases e3 with e | e | e <;> simp [e, Value.oneCell']
theorem RowAt.run_clear {W : World} {rb cap : Nat} {ys : List S99} (h : RowAt W rb cap ys) (i : Nat) (hi : i < ys.length) (ty : TypeId) (c : Nat) :
  ∃ W', (Builtin.clear_ #[76] ty #[.slice (some ⟨rb, i * 3, none⟩) (ys.length - i) c]).run Try.prog W = .ok (.tuple #[]) W' ∧ RowAt W' rb cap (ys.take i) ∧ W.grownBy W' (some rb) := by
 have hle := h.le
 have hlen : (Builtin.zeroCells #[.int .i64 0, .int .i64 0, .string ⟨#[]⟩] (ys.length - i)).toList.length = (ys.length - i) * 3 := by rw [Array.length_toList, size_zeroCells]; rfl
 refine ⟨W.setCells rb (i * 3) (Builtin.zeroCells #[.int .i64 0, .int .i64 0, .string ⟨#[]⟩] (ys.length - i)).toList, ?_, h.cut i _ (by omega) (by rw [hlen]; omega), ?_⟩
 ·obtain ⟨cur, hh, hs, hn, hc⟩ := h
  have hst := run_storeCells_cells (P := Try.prog) rb (i * 3) (Builtin.zeroCells #[.int .i64 0, .int .i64 0, .string ⟨#[]⟩] (ys.length - i)).toList 0 W (fun j hj => by
   rw [hlen] at hj
   rw [blk_cell hh]
   simp
   omega) (fun j hj => blk_frozen hh _) (zeroCells_one _)
  obtain ⟨k, hk⟩ : ∃ k, ys.length - i = k + 1 := ⟨ys.length - i - 1, by omega⟩
  rw [hk] at hst ⊢
  simp only [Nat.add_zero] at hst
  simp [Builtin.clear_, run_underlying Try.underlying76, zero84, Value.cells, hst]
 ·obtain ⟨s1, s2, s3, s4⟩ := setCells_same rb (Builtin.zeroCells #[.int .i64 0, .int .i64 0, .string ⟨#[]⟩] (ys.length - i)).toList (i * 3) W
  exact ⟨s1, s2, s3, by rw [s4]; exact Nat.le_refl _, fun k hk hne => setCells_far _ _ k (fun e => hne (by rw [e]))⟩
def encW (a : S99) : Value := .agg #[.int .i64 a.f0, .int .i64 a.f1, .string a.f2]
structure MatchOk (W0 : World) (X : Nat → Prop) (f : FuncId) (caps : Array Value) (p : S99 → Bool) : Prop where
  eg : ∀ args w, (callFunc f args).run Try.prog w = .ok (.enter f args) w
  say : ∀ a W, Kept W0 W X → Calls Try.prog f (#[encW a] ++ caps) W fun e W' => e = .returned (.bool (p a)) ∧ Below W.heap.size W W'
theorem MatchOk.kept {W0 W1 : World} {X : Nat → Prop} {f : FuncId} {caps : Array Value} {p : S99 → Bool} (h : MatchOk W0 X f caps p) (hk : Kept W0 W1 X) : MatchOk W1 X f caps p := ⟨h.eg, fun a W hw => h.say a W (hk.then_ hw (fun _ z => Or.inl z))⟩
theorem MatchOk.mono {W0 : World} {X Y : Nat → Prop} {f : FuncId} {caps : Array Value} {p : S99 → Bool} (h : MatchOk W0 X f caps p) (hk : ∀ k, Y k → X k ∨ W0.heap.size ≤ k) : MatchOk W0 Y f caps p := ⟨h.eg, fun a W hw => h.say a W ((Kept.refl W0 X).then_ hw hk)⟩
def IxPost (p : S99 → Bool) (xs : List S99) (r : Int) : Prop :=
  (r = -1 ∧ ∀ a ∈ xs, p a = false) ∨ ∃ (i : Nat) (h : i < xs.length), r = (i : Int) ∧ (∀ a ∈ xs.take i, p a = false) ∧ p xs[i] = true
set_option maxHeartbeats 800000 in
set_option maxRecDepth 100000 in
theorem index_calls (W : World) (f : FuncId) (caps : Array Value) (p : S99 → Bool) (X : Nat → Prop) (A : Option Addr) (cap : Nat) (xs : List S99) (hp : MatchOk W X f caps p) (hn : xs.length ≤ 4611686018427387904) (hC : Kd.C k99 W A xs.length xs) :
  Calls Try.prog 63 #[.slice A xs.length cap, .func (.func f) #[] caps] W fun e W' => ∃ r, e = .returned (.int .i64 r) ∧ IxPost p xs r ∧ Below W.heap.size W W' := by
 have HP := Aside0.mk hp
 have EG := hp.eg
 have HC := Aside0.mk hC
 have HB0 := Aside0.mk (Below.refl W.heap.size W)
 clear hp hC
 go_enter Try.func63, Try.ntmps63
 go_wp2
 go_loopg [5, 8] xs.length (fun gg _ s8 wr => ∃ i : Nat, s8 = .int .i64 i ∧ i ≤ xs.length ∧ xs.length - i ≤ gg ∧ Aside0 (∀ a ∈ xs.take i, p a = false) ∧ Aside0 (Below W.heap.size W wr))
 case atStart => exact ⟨0, by go_num, Nat.zero_le _, by omega, ⟨fun a ha => by cases ha⟩, HB0⟩
 case round =>
  obtain ⟨i, rfl, hi, hgg, HN, HF⟩ := hrel
  by_cases hlt : i < xs.length
  ·have hltz : (i : Int) < (xs.length : Int) := by omega
   obtain ⟨ad, e, h0, h1, h2⟩ := at_T99 (Kd.C_below HC.out HF.out) (i : Int) (by omega) hltz
   rw [rdT99_at xs i hlt] at h0 h1 h2
   cases e
   have hcall := HP.out.say xs[i] wr (Kept.of_below HF.out X)
   unfold encW at hcall
   have HCALL := Aside0.mk hcall
   clear hcall
   rw [Int.toNat_natCast] at h0 h1 h2
   have htk : xs.take (i + 1) = xs.take i ++ [xs[i]] := List.take_succ_eq_append_getElem hlt
   have HTK := Aside0.mk htk
   clear htk
   cases hq : p xs[i] with
   | false =>
    rw [hq] at HCALL
    have HQ := Aside0.mk hq
    clear hq
    go_wp2_with fail
    with_reducible refine HCALL.out.mono ?_
    rintro e W1 ⟨rfl, hf⟩
    have HF1 := Aside0.mk (HF.out.trans (hf.mono HF.out.size))
    clear hf HCALL
    go_wp2_with fail
    go_roundg (xs.length - (i + 1))
    case measure => omega
    case rel =>
     refine ⟨i + 1, by go_num, by omega, Nat.le_refl _, ⟨fun a ha => ?_⟩, HF1⟩
     rw [HTK.out] at ha
     rcases List.mem_append.1 ha with ha | ha
     ·exact HN.out a ha
     ·rw [List.mem_singleton.1 ha]; exact HQ.out
   | true =>
    rw [hq] at HCALL
    have HQ := Aside0.mk hq
    clear hq
    go_wp2_with fail
    with_reducible refine HCALL.out.mono ?_
    rintro e W1 ⟨rfl, hf⟩
    have HF1 := Aside0.mk (HF.out.trans (hf.mono HF.out.size))
    clear hf HCALL
    go_wp2_with fail
    go_ret
    exact ⟨(i : Int), rfl, Or.inr ⟨i, hlt, rfl, HN.out, HQ.out⟩, HF1.out⟩
  ·obtain rfl : i = xs.length := by omega
   go_wp2_with fail
   go_ret
   exact ⟨-1, rfl, Or.inl ⟨rfl, fun a ha => HN.out a (by rw [List.take_length]; exact ha)⟩, HF.out⟩
structure KInv (q : S99 → Bool) (xs : List S99) (j i : Nat) (ys : List S99) : Prop where
  len : ys.length = xs.length
  kept : (xs.take j).filter (fun a => !q a) = ys.take i
  ij : i < j
  high : ∀ t, j ≤ t → ys[t]? = xs[t]?
theorem KInv.skip {q : S99 → Bool} {xs : List S99} {j i : Nat} {ys : List S99} (h : KInv q xs j i ys) (hj : j < xs.length) (hq : q xs[j] = true) : KInv q xs (j + 1) i ys :=
 ⟨h.len, by rw [List.take_succ_eq_append_getElem hj, List.filter_append, h.kept]; simp [hq], by have := h.ij; omega, fun t ht => h.high t (by omega)⟩
theorem KInv.keep {q : S99 → Bool} {xs : List S99} {j i : Nat} {ys : List S99} (h : KInv q xs j i ys) (hj : j < xs.length) (hq : q xs[j] = false) : KInv q xs (j + 1) (i + 1) (ys.set i xs[j]) := by
 have hij := h.ij
 have hi : i < ys.length := by have := h.len; omega
 refine ⟨by rw [List.length_set]; exact h.len, ?_, by omega, fun t ht => ?_⟩
 ·rw [List.take_succ_eq_append_getElem hj, List.filter_append, h.kept, List.take_succ_eq_append_getElem (by rw [List.length_set]; exact hi), List.getElem_set_self, List.take_set_of_le (Nat.le_refl i)]
  simp [hq]
 ·rw [List.getElem?_set_ne (by omega)]
  exact h.high t (by omega)
theorem KInv.start {q : S99 → Bool} {xs : List S99} {i : Nat} (hi : i < xs.length) (hn : ∀ a ∈ xs.take i, q a = false) (hq : q xs[i] = true) : KInv q xs (i + 1) i xs :=
 ⟨rfl, by
  rw [List.take_succ_eq_append_getElem hi, List.filter_append]
  have : (xs.take i).filter (fun a => !q a) = xs.take i := List.filter_eq_self.2 (fun a ha => by rw [hn a ha]; rfl)
  rw [this]
  simp [hq], by omega, fun t _ => rfl⟩
def DelPost (q : S99 → Bool) (xs : List S99) (B rb cap : Nat) (W W' : World) : Prop :=
  RowAt W' rb cap (xs.filter fun a => !q a) ∧ Kept W W' (fun k => k = rb) ∧ Below B W W'
set_option maxHeartbeats 2000000 in
set_option maxRecDepth 100000 in
theorem delfun_row (W : World) (B : Nat) (f : FuncId) (caps : Array Value) (p : S99 → Bool) (rb cap : Nat) (xs : List S99) (hp : MatchOk W (fun k => k = rb) f caps p) (hn : xs.length ≤ 4611686018427387904) (hr : RowAt W rb cap xs) (hBr : B ≤ rb) (hcm : cap ≤ maxLen) :
  Calls Try.prog 61 #[.slice (some ⟨rb, 0, none⟩) xs.length cap, .func (.func f) #[] caps] W fun e W' =>
   e = .returned (.slice (some ⟨rb, 0, none⟩) (xs.filter fun a => !p a).length cap) ∧ DelPost p xs B rb cap W W' := by
 have hBW : B ≤ W.heap.size := by have := hr.lt; omega
 have hix := index_calls W f caps p _ (some ⟨rb, 0, none⟩) cap xs hp hn (by
  obtain ⟨A, c, hv, _, hC⟩ := Kd.R_reads (hr.toR hBr hcm (ok := fun _ => True) trivial)
  cases hv
  exact hC)
 have HIX := Aside0.mk hix
 have HP := Aside0.mk hp
 have EG := hp.eg
 have HR := Aside0.mk hr
 have hle := hr.le
 have hcm' : cap ≤ 9223372036854775807 := hcm
 clear hp hr hix hcm
 go_enter Try.func61, Try.ntmps61
 go_wp2_with fail
 refine HIX.out.mono ?_
 rintro e W1 ⟨r, rfl, hpost, hf⟩
 clear HIX
 rcases hpost with ⟨rfl, hall⟩ | ⟨i0, hi0, rfl, hno, hyes⟩
 ·have HALL := Aside0.mk hall
  have HF := Aside0.mk hf
  clear hall hf
  go_wp2_with fail
  go_ret
  have e1 : (xs.filter fun a => !p a) = xs := List.filter_eq_self.2 (fun a ha => by rw [HALL.out a ha]; rfl)
  rw [e1]
  refine ⟨rfl, ?_⟩
  unfold DelPost
  rw [e1]
  exact ⟨HR.out.move (HF.out.block rb HR.out.lt), Kept.of_below HF.out _, HF.out.mono hBW⟩
 ·have hb1 : ((i0 : Int) == -1) = false := beq_eq_false_iff_ne.2 (by omega)
  have HI := Aside0.mk (KInv.start hi0 hno hyes)
  have HF := Aside0.mk hf
  clear hno hyes hf
  go_wp2_with fail
  go_loopg [5, 6, 7] xs.length (fun gg s5 s6 _ wr => ∃ (i j : Nat) (ys : List S99), s5 = .int .i64 i ∧ s6 = .int .i64 j ∧ j ≤ xs.length ∧ xs.length - j ≤ gg ∧ Aside0 (KInv p xs j i ys) ∧ Aside0 (RowAt wr rb cap ys) ∧ Aside0 (Kept W wr (fun k => k = rb)) ∧ Aside0 (Below B W wr))
  case atStart => exact ⟨i0, i0 + 1, xs, rfl, by go_num, by omega, by omega, HI, ⟨HR.out.move (HF.out.block rb HR.out.lt)⟩, ⟨Kept.of_below HF.out _⟩, ⟨HF.out.mono hBW⟩⟩
  case round =>
   clear HI HF
   obtain ⟨i, j, ys, rfl, rfl, hjd, hgg, HI, HRY, HK, HB⟩ := hrel
   have hij := HI.out.ij
   have hyl := HI.out.len
   have hWr := HK.out.1
   by_cases hlt : j < xs.length
   ·have hltz : (j : Int) < (xs.length : Int) := by omega
    have hyj : ys[j]'(by omega) = xs[j] := by
     have := HI.out.high j (Nat.le_refl j)
     rw [List.getElem?_eq_getElem (by omega), List.getElem?_eq_getElem hlt] at this
     exact Option.some.inj this
    obtain ⟨r0, r1, r2⟩ := HRY.out.cells j (by omega)
    obtain ⟨w0, w1, w2⟩ := HRY.out.cells i (by omega)
    rw [hyj] at r0 r1 r2
    have f0 := HRY.out.free (i * 3)
    have f1 := HRY.out.free (i * 3 + 1)
    have f2 := HRY.out.free (i * 3 + 2)
    have lrb := HRY.out.lt
    have hKA : Kept W (wr.alloc (.cells #[.int .i64 xs[j].f0, .int .i64 xs[j].f1, .string xs[j].f2] 84)) (fun k => k = rb) := HK.out.alloc _
    have hcall := HP.out.say xs[j] _ hKA
    unfold encW at hcall
    have HCALL := Aside0.mk hcall
    clear hcall hKA
    cases hq : p xs[j] with
    | true =>
     rw [hq] at HCALL
     have HQ := Aside0.mk hq
     clear hq
     go_wp2_with fail
     with_reducible refine HCALL.out.mono ?_
     rintro e W2 ⟨rfl, hf⟩
     have HF1 := Aside0.mk (below_step (below_alloc (Below.refl wr.heap.size wr) (.cells #[.int .i64 xs[j].f0, .int .i64 xs[j].f1, .string xs[j].f2] 84)) hf)
     clear hf HCALL
     go_wp2_with fail
     go_roundg (xs.length - (j + 1))
     case measure => omega
     case rel =>
      have h2 := HF1.out
      exact ⟨i, j + 1, ys, rfl, by go_num, by omega, Nat.le_refl _, ⟨HI.out.skip hlt HQ.out⟩, ⟨HRY.out.move (h2.block rb HRY.out.lt)⟩, ⟨HK.out.below h2⟩, ⟨HB.out.trans (h2.mono (by omega))⟩⟩
    | false =>
     rw [hq] at HCALL
     have HQ := Aside0.mk hq
     clear hq
     go_wp2_with fail
     with_reducible refine HCALL.out.mono ?_
     rintro e W2 ⟨rfl, hf⟩
     have HF1 := Aside0.mk (below_step (below_alloc (Below.refl wr.heap.size wr) (.cells #[.int .i64 xs[j].f0, .int .i64 xs[j].f1, .string xs[j].f2] 84)) hf)
     have HR2 : Aside0 (RowAt W2 rb cap ys) := ⟨HRY.out.move (HF1.out.block rb HRY.out.lt)⟩
     have hnew := blk_below (blk_new wr (.cells #[.int .i64 xs[j].f0, .int .i64 xs[j].f1, .string xs[j].f2] 84)) hf
     have n0 : W2.cell? ⟨wr.heap.size, 0, none⟩ = some (.int .i64 xs[j].f0) := by rw [blk_cell hnew]; rfl
     have n1 : W2.cell? ⟨wr.heap.size, 1, none⟩ = some (.int .i64 xs[j].f1) := by rw [blk_cell hnew]; rfl
     have n2 : W2.cell? ⟨wr.heap.size, 2, none⟩ = some (.string xs[j].f2) := by rw [blk_cell hnew]; rfl
     obtain ⟨w20, w21, w22⟩ := HR2.out.cells i (by omega)
     have f20 := HR2.out.free (i * 3)
     have f21 := HR2.out.free (i * 3 + 1)
     have f22 := HR2.out.free (i * 3 + 2)
     clear hf HCALL hnew
     go_wp2_with fail
     go_roundg (xs.length - (j + 1))
     case measure => omega
     case rel =>
      have h2 := HF1.out
      have hK2 : Kept W W2 (fun k => k = rb) := HK.out.below h2
      have hB2 : Below B W W2 := HB.out.trans (h2.mono (by omega))
      have hR3 := HR2.out.set i (by omega) xs[j]
      exact ⟨i + 1, j + 1, ys.set i xs[j], by go_num, by go_num, by omega, Nat.le_refl _, ⟨HI.out.keep hlt HQ.out⟩, ⟨hR3⟩, ⟨((hK2.setCell (Or.inl rfl) _).setCell (Or.inl rfl) _).setCell (Or.inl rfl) _⟩, ⟨((hB2.setCell hBr _).setCell hBr _).setCell hBr _⟩⟩
   ·obtain rfl : j = xs.length := by omega
    have hltz : ¬ (xs.length : Int) < (xs.length : Int) := by omega
    obtain ⟨W3, hclr, hR3, hG3⟩ := HRY.out.run_clear i (by omega) 0 (cap - i)
    rw [hyl] at hclr
    have HR3 := Aside0.mk hR3
    have HG3 := Aside0.mk hG3
    clear hR3 hG3
    go_wp2_with fail
    go_ret
    have hk := HI.out.kept
    rw [List.take_length] at hk
    have hlen : (xs.filter fun a => !p a).length = i := by rw [hk, List.length_take]; omega
    rw [hlen]
    refine ⟨rfl, ?_⟩
    unfold DelPost
    rw [hk]
    exact ⟨HR3.out, Kept.of_grown HG3.out HK.out (fun k hk => Or.inl (Option.some.inj hk).symm), HB.out.grown HG3.out (by omega) (fun k hk => by cases hk; exact hBr)⟩
set_option maxRecDepth 100000 in
theorem delfun_nil (W : World) (f : FuncId) (caps : Array Value) (p : S99 → Bool) (X : Nat → Prop) (hp : MatchOk W X f caps p) :
  Calls Try.prog 61 #[.slice none 0 0, .func (.func f) #[] caps] W fun e W' => e = .returned (.slice none 0 0) ∧ Below W.heap.size W W' := by
 have hix := index_calls W f caps p X none 0 [] hp (by simp) (Kd.C_nil _ _)
 have HIX := Aside0.mk hix
 clear hp hix
 go_enter Try.func61, Try.ntmps61
 go_wp2_with fail
 refine HIX.out.mono ?_
 rintro e W1 ⟨r, rfl, hpost, hf⟩
 clear HIX
 rcases hpost with ⟨rfl, hall⟩ | ⟨i0, hi0, _⟩
 ·have HF := Aside0.mk hf
  clear hall hf
  go_wp2_with fail
  go_ret
  exact ⟨rfl, HF.out⟩
 ·exact absurd hi0 (by simp)
theorem delfun_calls (W : World) (B : Nat) (f : FuncId) (caps : Array Value) (p : S99 → Bool) (F : Nat → Prop) (pv : Value) (xs : List S99) (hp : MatchOk W F f caps p) (hn : xs.length ≤ 4611686018427387904) (hR : Kd.R k99 84 W B F pv xs) (hB : B ≤ W.heap.size) :
  Calls Try.prog 61 #[pv, .func (.func f) #[] caps] W fun e W' =>
   ∃ pv', e = .returned pv' ∧ Kd.R k99 84 W' B F pv' (xs.filter fun a => !p a) ∧ pv'.ownBlock = pv.ownBlock ∧ Kept W W' (fun k => some k = pv.ownBlock) ∧ Below B W W' := by
 obtain ⟨h0, inner, ho, hr⟩ := id hR
 rcases ho.2 with ⟨hz, he⟩ | ⟨g, cap', cur, he, hb, hh, hn', hm, hs, ht⟩
 ·subst hz
  obtain rfl := List.eq_nil_of_length_eq_zero he
  refine (delfun_nil W f caps p F hp).mono ?_
  rintro e W' ⟨rfl, hb⟩
  exact ⟨_, rfl, Kd.R_nil _ _ _ _ _, rfl, Kept.of_below hb _, hb.mono hB⟩
 ·subst he
  obtain ⟨_, h2, h3, h4⟩ := RowAt.of_R hR
  have hg : F g := h0 g rfl
  refine (delfun_row W B f caps p g cap' xs (hp.mono (fun k hk => Or.inl (hk ▸ hg))) hn h2 h3 h4).mono ?_
  rintro e W' ⟨rfl, h5, h6, h7⟩
  exact ⟨_, rfl, h5.toR h3 h4 hg, rfl, h6.mono (fun k hk => by rw [hk]; rfl), h7⟩
end Go.Proofs.Ytflajmgichdhhaa.PG
namespace Go.Proofs.Ytflajmgichdhhaa.PG
open Go.RowKit Go.Proofs.YtflajmgichdhhaaW.PrintWords Go.Proofs.YtflajmgichdhhaaW.PrintLast Go.Proofs.YtflajmgichdhhaaW.PrintMore
set_option linter.unusedVariables false
set_option linter.unusedSimpArgs false
set_option maxRecDepth 100000 in
theorem of_calls (W : World) (sys : Int) :
  Calls Try.prog 52 #[.int .i64 sys] W fun e W' => e = .returned (.func (.func 62) #[] #[.pointer (some ⟨W.heap.size, 0, none⟩)]) ∧ W' = W.alloc (.cells #[.int .i64 sys] 3) := by
 go_enter Try.func52, Try.ntmps52
 go_wp2_with fail
 go_ret
 exact ⟨rfl, rfl⟩
theorem eg62 : ∀ args w, (callFunc 62 args).run Try.prog w = .ok (.enter 62 args) w := enters_of Try.func62 (by kernel_rfl) rfl
theorem eg59 : ∀ args w, (callFunc 59 args).run Try.prog w = .ok (.enter 59 args) w := enters_of Try.func59 (by kernel_rfl) rfl
def isOf (sys : Int) (a : S99) : Bool := a.f0 == sys
def isAny (_ : S99) : Bool := true
set_option maxRecDepth 100000 in
theorem match62 (W : World) (b : Nat) (a : S99) (sys : Int) (h : W.heap[b]? = some (.cells #[.int .i64 sys] 3 (0, 0))) :
  Calls Try.prog 62 #[encW a, .pointer (some ⟨b, 0, none⟩)] W fun e W' => e = .returned (.bool (a.f0 == sys)) ∧ Below W.heap.size W W' := by
 have hl : b < W.heap.size := blk_lt h
 have c0 : W.cell? ⟨b, 0, none⟩ = some (.int .i64 sys) := by rw [blk_cell h]; rfl
 clear h
 unfold encW
 go_enter Try.func62, Try.ntmps62
 go_wp2_with fail
 go_ret
 exact ⟨rfl, below_alloc (Below.refl _ _) _⟩
set_option maxRecDepth 100000 in
theorem match59 (W : World) (a : S99) :
  Calls Try.prog 59 #[encW a] W fun e W' => e = .returned (.bool true) ∧ Below W.heap.size W W' := by
 unfold encW
 go_enter Try.func59, Try.ntmps59
 go_wp2_with fail
 go_ret
 exact ⟨rfl, below_alloc (Below.refl _ _) _⟩
theorem matchOf (W : World) (X : Nat → Prop) (b : Nat) (sys : Int) (h : W.heap[b]? = some (.cells #[.int .i64 sys] 3 (0, 0))) (hx : ¬ X b) : MatchOk W X 62 #[.pointer (some ⟨b, 0, none⟩)] (isOf sys) :=
 ⟨eg62, fun a W' hk => match62 W' b a sys (blk_kept h hk hx)⟩
theorem matchAny (W : World) (X : Nat → Prop) : MatchOk W X 59 #[] isAny := ⟨eg59, fun a W' _ => match59 W' a⟩
def pendN (S : DevS) (sys : Int) : Nat := (S.pend.filter (isOf sys)).length
theorem filter_step (p : S99 → Bool) (xs : List S99) (j : Nat) (h : j < xs.length) : ((xs.take (j + 1)).filter p).length = ((xs.take j).filter p).length + if p xs[j] = true then 1 else 0 := by
 rw [List.take_succ_eq_append_getElem h, List.filter_append, List.length_append, List.filter_cons]
 split <;> rfl
set_option maxHeartbeats 800000 in
set_option maxRecDepth 100000 in
theorem pending_calls {W : World} {B : Nat} {L : Lay} {vs : List Value} {pv uv : Value} {m : Ents} {F : Nat → Prop} {S : DevS} (hP : DevAt W B L vs pv uv m F S) (hpl : S.pend.length ≤ 1000000) (sys : Int) :
  Calls Try.prog 24 #[.pointer (some ⟨L.g, 0, none⟩), .int .i64 sys] W fun e W' => e = .returned (.int .i64 (pendN S sys : Int)) ∧ Below W.heap.size W W' := by
 have c2 := hP.c2
 have lg := hP.lg
 obtain ⟨A, c, hpv, hpc, hC⟩ := hP.pslice
 subst hpv
 have HC := Aside0.mk hC
 clear hP hC
 go_enter Try.func24, Try.ntmps24
 go_wp2_with fail
 refine (of_calls W sys).mono ?_
 rintro e W1 ⟨rfl, hW1⟩
 have hb1 : Below W.heap.size W W1 := by rw [hW1]; exact below_alloc (Below.refl _ _) _
 have hx1 : W1.heap[W.heap.size]? = some (.cells #[.int .i64 sys] 3 (0, 0)) := by rw [hW1]; exact blk_new _ _
 have k2 := (hb1.cell (p := ⟨L.g, 2, none⟩) lg).trans c2
 have HM := Aside0.mk (matchOf W1 (fun _ => False) W.heap.size sys hx1 (fun z => z))
 have EG := eg62
 have HB1 := Aside0.mk hb1
 have HC1 := Aside0.mk (Kd.C_below HC.out hb1)
 clear hb1 hx1 hW1 c2 HC
 go_wp2_with fail
 go_loopg [5, 16] S.pend.length (fun gg s5 s16 wr => ∃ j n : Nat, s16 = .int .i64 j ∧ s5 = .int .i64 n ∧ j ≤ S.pend.length ∧ S.pend.length - j ≤ gg ∧ n ≤ j ∧ Aside0 (n = ((S.pend.take j).filter (isOf sys)).length) ∧ Aside0 (Below W1.heap.size W1 wr))
 case atStart => exact ⟨0, 0, by go_num, by go_num, Nat.zero_le _, by omega, Nat.le_refl _, ⟨rfl⟩, ⟨Below.refl _ _⟩⟩
 case round =>
  obtain ⟨j, n, rfl, rfl, hj, hgg, hnj, HN, HF⟩ := hrel
  by_cases hlt : j < S.pend.length
  ·have hltz : (j : Int) < (S.pend.length : Int) := by omega
   obtain ⟨ad, e, h0, h1, h2⟩ := at_T99 (Kd.C_below HC1.out HF.out) (j : Int) (by omega) hltz
   rw [rdT99_at _ j hlt] at h0 h1 h2
   cases e
   have hst := filter_step (isOf sys) S.pend j hlt
   obtain ⟨a, ha⟩ : ∃ a, a = S.pend[j] := ⟨_, rfl⟩
   rw [← ha] at h0 h1 h2 hst
   have hcall := HM.out.say a (wr.alloc (.cells #[.int .i64 a.f0, .int .i64 a.f1, .string a.f2] 84)) (Kept.of_below (below_alloc HF.out _) _)
   unfold encW at hcall
   have HCALL := Aside0.mk hcall
   have HST := Aside0.mk hst
   clear hcall hst ha
   rw [Int.toNat_natCast] at h0 h1 h2
   cases hq : isOf sys a with
   | false =>
    rw [hq] at HCALL HST
    clear hq
    go_wp2_with fail
    refine HCALL.out.mono ?_
    rintro e W2 ⟨rfl, hf⟩
    have HF1 := Aside0.mk (HF.out.trans ((below_step (below_alloc (Below.refl wr.heap.size wr) (.cells #[.int .i64 a.f0, .int .i64 a.f1, .string a.f2] 84)) hf).mono HF.out.size))
    clear hf HCALL
    go_wp2_with fail
    go_roundg (S.pend.length - (j + 1))
    case measure => omega
    case rel => exact ⟨j + 1, n, by go_num, rfl, by omega, Nat.le_refl _, by omega, ⟨by have h1 := HST.out; have h2 := HN.out; rw [if_neg (by simp)] at h1; omega⟩, HF1⟩
   | true =>
    rw [hq] at HCALL HST
    clear hq
    go_wp2_with fail
    refine HCALL.out.mono ?_
    rintro e W2 ⟨rfl, hf⟩
    have HF1 := Aside0.mk (HF.out.trans ((below_step (below_alloc (Below.refl wr.heap.size wr) (.cells #[.int .i64 a.f0, .int .i64 a.f1, .string a.f2] 84)) hf).mono HF.out.size))
    clear hf HCALL
    go_wp2_with fail
    go_roundg (S.pend.length - (j + 1))
    case measure => omega
    case rel => exact ⟨j + 1, n + 1, by go_num, by go_num, by omega, Nat.le_refl _, by omega, ⟨by have h1 := HST.out; have h2 := HN.out; simp only [if_true] at h1; omega⟩, HF1⟩
  ·obtain rfl : j = S.pend.length := by omega
   go_wp2_with fail
   go_ret
   have h := HN.out
   rw [List.take_length] at h
   exact ⟨by rw [h]; rfl, HB1.out.trans (HF.out.mono HB1.out.size)⟩
end Go.Proofs.Ytflajmgichdhhaa.PG
namespace Go.Proofs.Ytflajmgichdhhaa.PG
open Go.RowKit Go.Proofs.YtflajmgichdhhaaW.PrintWords Go.Proofs.YtflajmgichdhhaaW.PrintLast Go.Proofs.YtflajmgichdhhaaW.PrintMore
set_option linter.unusedVariables false
set_option linter.unusedSimpArgs false
attribute [local go_sem] max2_int min2_int max_two min_two
def bytesAt (l : List Int) (i : Nat) : Nat := match l[i]? with | some x => (min (max 0 x) 140).toNat | none => 0
theorem bytes_le (l : List Int) (i : Nat) : bytesAt l i ≤ 140 := by unfold bytesAt; split <;> omega
def cut (d s : ByteArray) (n : Nat) : ByteArray := d.extract 0 n ++ s.extract n s.size
theorem cut_size (d s : ByteArray) (n : Nat) (hd : d.size = 140) (hs : s.size = 140) (hn : n ≤ 140) : (cut d s n).size = 140 := by
 unfold cut
 rw [ByteArray.size_append, ByteArray.size_extract, ByteArray.size_extract]
 omega
def endOne (l : List Int) (i : Nat) (w : S99) (S : DevS) : DevS := changeS w.f1.toNat (cut w.f2 (S.stable.getD w.f1.toNat ⟨#[]⟩) (bytesAt l i)) S
def endStep (p : S99 → Bool) (l : List Int) (st : Nat × DevS) (w : S99) : Nat × DevS := if p w = true then (st.1 + 1, endOne l st.1 w st.2) else st
def endF (p : S99 → Bool) (l : List Int) (ws : List S99) (st : Nat × DevS) : Nat × DevS := ws.foldl (endStep p l) st
def finishS (p : S99 → Bool) (l : List Int) (S : DevS) : DevS := { (endF p l S.pend (0, S)).2 with pend := S.pend.filter fun a => !p a }
theorem endF_step (p : S99 → Bool) (l : List Int) (ws : List S99) (j : Nat) (h : j < ws.length) (st : Nat × DevS) : endF p l (ws.take (j + 1)) st = endStep p l (endF p l (ws.take j) st) ws[j] := by
 unfold endF
 rw [List.take_succ_eq_append_getElem h, List.foldl_append]
 rfl
structure SameBut (S S' : DevS) : Prop where
  sl : S'.stable.length = S.stable.length
  pend : S'.pend = S.pend
  fences : S'.fences = S.fences
  fset : S'.fset = S.fset
  left : S'.left = S.left
  surv : S'.surv = S.surv
  failed : S'.failed = S.failed
theorem SameBut.refl (S : DevS) : SameBut S S := ⟨rfl, rfl, rfl, rfl, rfl, rfl, rfl⟩
theorem SameBut.change (n : Nat) (d : ByteArray) (S : DevS) : SameBut S (changeS n d S) := by
 unfold changeS
 split
 ·exact SameBut.refl S
 ·exact ⟨by simp, rfl, rfl, rfl, rfl, rfl, rfl⟩
theorem SameBut.trans {S S1 S2 : DevS} (h : SameBut S S1) (k : SameBut S1 S2) : SameBut S S2 :=
 ⟨k.sl.trans h.sl, k.pend.trans h.pend, k.fences.trans h.fences, k.fset.trans h.fset, k.left.trans h.left, k.surv.trans h.surv, k.failed.trans h.failed⟩
theorem endF_same (p : S99 → Bool) (l : List Int) : ∀ (ws : List S99) (st : Nat × DevS), SameBut st.2 (endF p l ws st).2
 | [], st => SameBut.refl _
 | w :: ws, st => by
  show SameBut st.2 (endF p l ws (endStep p l st w)).2
  refine SameBut.trans ?_ (endF_same p l ws _)
  unfold endStep
  split
  ·exact SameBut.change _ _ _
  ·exact SameBut.refl _
theorem getD_mem {α : Type} (xs : List α) (i : Nat) (d : α) (h : i < xs.length) : xs.getD i d ∈ xs := by
 rw [List.getD_eq_getElem?_getD, List.getElem?_eq_getElem h]
 exact List.getElem_mem h
theorem Fine.change {k : Nat} {S : DevS} (h : Fine k S) (n : Nat) (hn : n < S.stable.length) (d : ByteArray) (hd : d.size = 140) : Fine k (changeS n d S) := by
 unfold changeS
 split
 ·exact h
 ·refine { h with len := by simp [h.len], n0 := by simpa using h.n0, n1 := by simpa using h.n1, size := ?_, olen := ?_, osize := ?_, pend := ?_ }
  ·intro s hs
   rcases List.mem_or_eq_of_mem_set hs with hs | hs
   ·exact h.size s hs
   ·rw [hs]; exact hd
  ·intro l hl
   rcases List.mem_or_eq_of_mem_set hl with hl | hl
   ·exact h.olen l hl
   ·rw [hl]; exact List.length_take_le _ _
  ·intro l hl s hs
   rcases List.mem_or_eq_of_mem_set hl with hl | hl
   ·exact h.osize l hl s hs
   ·rw [hl] at hs
    rcases List.mem_cons.1 (List.mem_of_mem_take hs) with hs | hs
    ·rw [hs]; exact h.size _ (getD_mem _ _ _ hn)
    ·exact h.osize _ (getD_mem _ _ _ (by rw [h.len]; exact hn)) s hs
  ·intro w hw
   have := h.pend w hw
   simpa using this
theorem Fine.endStep {k : Nat} {st : Nat × DevS} (h : Fine k st.2) (p : S99 → Bool) (l : List Int) (w : S99) (hw : 0 ≤ w.f1 ∧ w.f1 < st.2.stable.length ∧ w.f2.size = 140) : Fine k (endStep p l st w).2 := by
 unfold PG.endStep
 split
 ·have hn : w.f1.toNat < st.2.stable.length := by omega
  exact h.change _ hn _ (cut_size _ _ _ hw.2.2 (h.size _ (getD_mem _ _ _ hn)) (bytes_le _ _))
 ·exact h
theorem Fine.endF {k : Nat} (p : S99 → Bool) (l : List Int) : ∀ (ws : List S99) (st : Nat × DevS), Fine k st.2 → (∀ w ∈ ws, 0 ≤ w.f1 ∧ w.f1 < st.2.stable.length ∧ w.f2.size = 140) → Fine k (PG.endF p l ws st).2
 | [], st, h, _ => h
 | w :: ws, st, h, hw => by
  show Fine k (PG.endF p l ws (PG.endStep p l st w)).2
  refine Fine.endF p l ws _ (h.endStep p l w (hw w List.mem_cons_self)) (fun w' hw' => ?_)
  have h1 := hw w' (List.mem_cons_of_mem _ hw')
  have h2 := (endF_same p l [w] st).sl
  have h3 : (PG.endF p l [w] st) = PG.endStep p l st w := rfl
  rw [h3] at h2
  rw [h2]
  exact h1
theorem Fine.finish {k : Nat} {S : DevS} (h : Fine k S) (p : S99 → Bool) (l : List Int) : Fine k (finishS p l S) := by
 have h1 : Fine k (PG.endF p l S.pend (0, S)).2 := Fine.endF p l S.pend (0, S) h (fun w hw => by have := h.pend w hw; exact ⟨this.2.2.1, this.2.2.2.1, this.2.2.2.2⟩)
 have h2 := endF_same p l S.pend (0, S)
 refine { h1 with pend := ?_, plen := ?_ }
 ·intro w hw
  have := h.pend w (List.mem_filter.1 hw).1
  show _ ∧ _ ∧ _ ∧ w.f1 < (((PG.endF p l S.pend (0, S)).2.stable.length : Nat) : Int) ∧ _
  rw [h2.sl]
  exact this
 ·show (S.pend.filter _).length ≤ k
  exact Nat.le_trans (List.length_filter_le _ _) h.plen
theorem DevAt.setPend {W W3 : World} {B : Nat} {L : Lay} {vs : List Value} {pv uv pv' : Value} {m : Ents} {F F' : Nat → Prop} {S : DevS} {ws : List S99} (h : DevAt W B L vs pv uv m F S) (hk : Kept W W3 (fun k => some k = pv.ownBlock))
    (hp : Kd.R k99 84 W3 B F' pv' ws) (hF : ∀ k, F k → F' k) (hF' : ∀ k, F' k → F k ∨ (W.heap.size ≤ k ∧ k < W3.heap.size)) (ho : pv'.ownBlock = pv.ownBlock ∨ ∀ k, pv'.ownBlock = some k → W.heap.size ≤ k) :
    DevAt (W3.setCell ⟨L.g, 2, none⟩ pv') B L vs pv' uv m F' { S with pend := ws } := by
  have hpo : ∀ k, pv.ownBlock = some k → ∃ cells, W.heap[k]? = some (.cells cells 84 (0, 0)) := fun k hk => by
    obtain ⟨inner, ho⟩ := Kd.R_own h.hp
    exact own_typed ho k hk
  have hpo' : ∀ k, pv'.ownBlock = some k → ∃ cells, W3.heap[k]? = some (.cells cells 84 (0, 0)) := fun k hk => by
    obtain ⟨inner, ho⟩ := Kd.R_own hp
    exact own_typed ho k hk
  have hne : ∀ {k : Nat} {t : TypeId} {cs : Array Value}, W.heap[k]? = some (.cells cs t (0, 0)) → t ≠ 84 → ¬ some k = pv.ownBlock := fun hb ht e => by
    obtain ⟨cells, hc⟩ := hpo _ e.symm
    exact blk_ne hb hc ht rfl
  have hgo : L.g ≠ L.ob := blk_ne h.hg h.ho (by decide)
  have hgs : L.g ≠ L.sb := blk_ne h.hg h.hs (by decide)
  have hgm : L.g ≠ L.bm := h.hm.ne h.hg
  have hmn : ¬ some L.bm = pv.ownBlock := fun e => by
    obtain ⟨cells, hc⟩ := hpo _ e.symm
    exact h.hm.ne hc rfl
  have hg3 : W3.heap[L.g]? = some (.cells (gcells L pv uv S) 81 (0, 0)) := blk_kept h.hg hk (hne h.hg (by decide))
  have hfar : ∀ k, k ≠ L.g → (W3.setCell ⟨L.g, 2, none⟩ pv').heap[k]? = W3.heap[k]? := fun k hk => Below.heap_setCell _ _ _ _ hk
  have hsz : (W3.setCell ⟨L.g, 2, none⟩ pv').heap.size = W3.heap.size := by simp [World.setCell]
  have hs3 := hk.1
  have hfr : ∀ {α : Type} {d : Kd α} {e : Nat} {v : Value} {xs : List α}, Kd.V d e W 0 (Fr L pv F) v xs → Kd.V d e (W3.setCell ⟨L.g, 2, none⟩ pv') 0 (Fr L pv' F') v xs := fun hv => by
    have h1 := Kd.V_kept (Kd.V_bound hv) hk (fun k hk e => hk.1.2 (Or.inr (Or.inr (Or.inr (Or.inr e)))))
    refine Kd.V_mono (Kd.V_step h1 (fun k hk _ => hfar k (fun e => hk.1.2 (Or.inl e)))) (fun k hk => ⟨hF k hk.1.1, fun hm => ?_⟩)
    rcases hm with e | e | e | e | e
    · exact hk.1.2 (Or.inl e)
    · exact hk.1.2 (Or.inr (Or.inl e))
    · exact hk.1.2 (Or.inr (Or.inr (Or.inl e)))
    · exact hk.1.2 (Or.inr (Or.inr (Or.inr (Or.inl e))))
    · rcases ho with ho | ho
      · rw [ho] at e; exact hk.1.2 (Or.inr (Or.inr (Or.inr (Or.inr e))))
      · have := ho k e.symm; have := hk.2; omega
  exact
    { hg := blk_put hg3 2 pv' (by rfl)
      hs := (hfar _ (fun e => hgs e.symm)).trans (blk_kept h.hs hk (hne h.hs (by decide)))
      ho := (hfar _ (fun e => hgo e.symm)).trans (blk_kept h.ho hk (hne h.ho (by decide)))
      hvl := h.hvl
      hv := fun i v x h1 h2 => hfr (h.hv i v x h1 h2)
      hp := Kd.R_mono (Kd.R_step (Kd.R_tight2 rfl hp) (fun k hk _ => hfar k (fun e => by obtain ⟨cells, hc⟩ := hpo' k hk.1.symm; rw [e, hg3] at hc; cases hc))) (fun k hk => hk.2)
      hm := (h.hm.move (hk.2 _ h.hm.lt hmn)).move (hfar _ (fun e => hgm e.symm))
      hl := h.hl
      hu := hfr h.hu
      hF := ⟨hF _ h.hF.1, hF _ h.hF.2.1, hF _ h.hF.2.2.1, hF _ h.hF.2.2.2⟩
      hr := fun k hk => by
        have h1 := h.hr _ h.hF.1
        rcases hF' k hk with hk | hk
        · have := h.hr k hk; exact ⟨this.1, by rw [hsz]; omega⟩
        · exact ⟨by omega, by rw [hsz]; exact hk.2⟩ }
inductive Bytes (l : List Int) (i : Nat) : Int → Prop where
  | none (h : l.length ≤ i) (e : bytesAt l i = 0) : Bytes l i 0
  | low (h : i < l.length) (h1 : l[i] ≤ 0) (e : bytesAt l i = 0) : Bytes l i 0
  | mid (h : i < l.length) (h1 : 0 < l[i]) (h2 : l[i] ≤ 140) (e : (bytesAt l i : Int) = l[i]) : Bytes l i l[i]
  | high (h : i < l.length) (h1 : 140 < l[i]) (e : bytesAt l i = 140) : Bytes l i 140
theorem rd_at (l : List Int) (i : Nat) (h : i < l.length) : rd l (i : Int) = l[i] := by
 unfold rd
 rw [Int.toNat_natCast, List.getD_eq_getElem?_getD, List.getElem?_eq_getElem h]
 rfl
set_option maxHeartbeats 4000000 in
set_option maxRecDepth 100000 in
theorem finish_calls {W : World} {B : Nat} {L : Lay} {vs : List Value} {pv uv : Value} {m : Ents} {F : Nat → Prop} {S : DevS} {k : Nat} (hP : DevAt W B L vs pv uv m F S) (hf : Fine k S) (hk : k ≤ 1000000) (f : FuncId) (caps : Array Value) (p : S99 → Bool)
  (hp : MatchOk W (Mut L pv) f caps p) (A : Option Addr) (c : Nat) (l : List Int) (hl : Kd.F (Kd.int .i64) W (fun k => ¬ Mut L pv k) A l.length l) (hlc : l.length ≤ c) (hlm : l.length ≤ 4611686018427387904) :
  Calls Try.prog 51 #[.pointer (some ⟨L.g, 0, none⟩), .func (.func f) #[] caps, .slice A l.length c] W fun e W' => e = .returned (.tuple #[]) ∧ DevPost B L F (finishS p l S) W W' := by
 have c2 := hP.c2
 have lg := hP.lg
 obtain ⟨A2, cc, hpv, hpc, hC⟩ := hP.pslice
 have hpl := hf.plen
 have hFS := hf.pend
 have HP := Aside0.mk hP
 have HF := Aside0.mk hf
 have HM := Aside0.mk hp
 have EG := hp.eg
 have HL := Aside0.mk hl
 have HFS := Aside0.mk hFS
 subst hpv
 clear hP hf hp hl hC hFS
 go_enter Try.func51, Try.ntmps51
 go_wp2_with fail
 go_loopg [6, 15] S.pend.length (fun gg s6 s15 wr => ∃ (j i : Nat) (vs' : List Value) (F' : Nat → Prop) (S' : DevS), s15 = .int .i64 j ∧ s6 = .int .i64 i ∧ j ≤ S.pend.length ∧ S.pend.length - j ≤ gg ∧ i ≤ j ∧ Aside0 (DevAt wr B L vs' (.slice A2 S.pend.length cc) uv m F' S') ∧ Aside0 (Fine k S') ∧ Aside0 (endF p l (S.pend.take j) (0, S) = (i, S')) ∧ Aside0 (∀ k, F' k → F k ∨ W.heap.size ≤ k) ∧ Aside0 (Kept W wr (fun k => k = L.sb ∨ k = L.ob)) ∧ Aside0 (Below B W wr))
 case atStart => exact ⟨0, 0, vs, F, S, by go_num, by go_num, Nat.zero_le _, by omega, Nat.le_refl _, HP, HF, ⟨rfl⟩, ⟨fun k z => Or.inl z⟩, ⟨Kept.refl _ _⟩, ⟨Below.refl _ _⟩⟩
 case round =>
  obtain ⟨j, i, vs', F', S', rfl, rfl, hj, hgg, hij, HPR, HFR, HE, HFF, HKR, HBR⟩ := hrel
  have hsame := endF_same p l (S.pend.take j) (0, S)
  rw [HE.out] at hsame
  have hkm : Kept W wr (Mut L (.slice A2 S.pend.length cc)) := HKR.out.mono (fun k z => z.elim (fun z => Or.inr (Or.inl z)) (fun z => Or.inr (Or.inr (Or.inl z))))
  have HKM := Aside0.mk hkm
  have HSA := Aside0.mk hsame
  clear hsame hkm
  by_cases hlt : j < S.pend.length
  ·have hltz : (j : Int) < (S.pend.length : Int) := by omega
   have hC1 := (Kd.R_reads' HPR.out.hp).2.2
   rw [HSA.out.pend] at hC1
   obtain ⟨ad, e, h0, h1, h2⟩ := at_T99 hC1 (j : Int) (by omega) hltz
   rw [rdT99_at _ j hlt] at h0 h1 h2
   cases e
   have hst := endF_step p l S.pend j hlt (0, S)
   rw [HE.out] at hst
   have hfa := HFS.out _ (List.getElem_mem hlt)
   obtain ⟨a, ha⟩ : ∃ a, a = S.pend[j] := ⟨_, rfl⟩
   rw [← ha] at h0 h1 h2 hst hfa
   obtain ⟨q, hq1⟩ := Int.eq_ofNat_of_zero_le hfa.2.2.1
   have hcall := HM.out.say a (wr.alloc (.cells #[.int .i64 a.f0, .int .i64 a.f1, .string a.f2] 84)) (HKM.out.alloc _)
   unfold encW at hcall
   have HCALL := Aside0.mk hcall
   have HST := Aside0.mk hst
   have HFA := Aside0.mk hfa
   have HQ1 := Aside0.mk hq1
   have hB : B ≤ wr.heap.size := by have := HPR.out.hr _ HPR.out.hF.1; omega
   clear hcall hst ha hfa hq1 hC1
   rw [Int.toNat_natCast] at h0 h1 h2
   have nb := blk_new wr (.cells #[.int .i64 a.f0, .int .i64 a.f1, .string a.f2] 84)
   have NB := Aside0.mk nb
   clear nb
   cases hq : p a with
   | false =>
    rw [hq] at HCALL
    have HQ := Aside0.mk hq
    clear hq
    go_wp2_with fail
    refine HCALL.out.mono ?_
    rintro e W2 ⟨rfl, hf⟩
    have HF1 := Aside0.mk (below_step (below_alloc (Below.refl wr.heap.size wr) (.cells #[.int .i64 a.f0, .int .i64 a.f1, .string a.f2] 84)) hf)
    clear hf HCALL
    go_wp2_with fail
    go_roundg (S.pend.length - (j + 1))
    case measure => omega
    case rel =>
     refine ⟨j + 1, i, vs', F', S', by go_num, rfl, by omega, Nat.le_refl _, by omega, ⟨HPR.out.below HF1.out⟩, HFR, ⟨?_⟩, HFF, ⟨HKR.out.below HF1.out⟩, ⟨HBR.out.trans (HF1.out.mono hB)⟩⟩
     rw [HST.out]
     unfold endStep
     rw [if_neg (by rw [HQ.out]; simp)]
   | true =>
    rw [hq] at HCALL
    have HQ := Aside0.mk hq
    clear hq
    go_wp2_with fail
    refine HCALL.out.mono ?_
    rintro e W2 ⟨rfl, hf⟩
    have hf1 := below_step (below_alloc (Below.refl wr.heap.size wr) (.cells #[.int .i64 a.f0, .int .i64 a.f1, .string a.f2] 84)) hf
    have HF1 := Aside0.mk hf1
    have hnew := blk_below NB.out hf
    have n1 : W2.cell? ⟨wr.heap.size, 1, none⟩ = some (.int .i64 a.f1) := by rw [blk_cell hnew]; rfl
    have n2 : W2.cell? ⟨wr.heap.size, 2, none⟩ = some (.string a.f2) := by rw [blk_cell hnew]; rfl
    rw [HQ1.out] at n1
    have hP2 := HPR.out.below hf1
    have hqn : q < S'.stable.length := by have := HFA.out; have h1 := HQ1.out; have h3 : S'.stable.length = S.stable.length := HSA.out.sl; omega
    have k0 := hP2.c0
    have ks := hP2.cs q hqn
    have hqz : (q : Int) < (S'.stable.length : Int) := by omega
    have hy1 : S'.stable.getD q ⟨#[]⟩ = S'.stable[q] := by rw [List.getD_eq_getElem?_getD, List.getElem?_eq_getElem hqn]; rfl
    have hy2 : S'.stable[q].size = 140 := HFR.out.size _ (List.getElem_mem _)
    obtain ⟨y, hy⟩ : ∃ y, y = S'.stable[q] := ⟨_, rfl⟩
    rw [← hy] at ks hy1 hy2
    have ha2 : a.f2.size = 140 := HFA.out.2.2.2.2
    have hcl := (Kd.F_kept HL.out (HKM.out.below hf1) (fun k z => z))
    have hci := Kd.F_now hcl
    have hend : ∀ b, b = bytesAt l i → endF p l (S.pend.take (j + 1)) (0, S) = (i + 1, changeS q (a.f2.extract 0 b ++ y.extract b y.size) S') := by
     rintro b rfl
     rw [HST.out]
     unfold endStep
     rw [if_pos HQ.out]
     unfold endOne cut
     rw [HQ1.out, Int.toNat_natCast, hy1]
    have hfine : ∀ b, b ≤ 140 → Fine k (changeS q (a.f2.extract 0 b ++ y.extract b y.size) S') := fun b hb => HFR.out.change q hqn _ (by
     rw [ByteArray.size_append, ByteArray.size_extract, ByteArray.size_extract]; omega)
    have hch : ∀ b, b ≤ 140 → Calls Try.prog 60 #[.pointer (some ⟨L.g, 0, none⟩), .int .i64 q, .string (a.f2.extract 0 b ++ y.extract b y.size)] W2.drew fun e W' => e = .returned (.tuple #[]) ∧ ChPost B L (.slice (some ad) S.pend.length cc) uv m F' (changeS q (a.f2.extract 0 b ++ y.extract b y.size) S') W2.drew W' := fun b _ =>
     change_calls (W := W2.drew) (hP2.move (W' := W2.drew) (fun _ _ => rfl) (Nat.le_refl _)) HFR.out.len HFR.out.olen q hqn (a.f2.extract 0 b ++ y.extract b y.size)
    have HEND := Aside0.mk hend
    have HFINE := Aside0.mk hfine
    have HCHG := Aside0.mk hch
    have s1 : (a.f2.size : Int) ≤ 140 := by omega
    have s2 : (140 : Int) ≤ (a.f2.size : Int) := by omega
    have s3 : (y.size : Int) ≤ 140 := by omega
    have s4 : (140 : Int) ≤ (y.size : Int) := by omega
    have s5 : ¬ 9223372036854775807 < y.size := by omega
    clear hf hf1 hnew hP2 hy1 hy2 hy ha2 hcl hend hfine hch HCALL HM HL hqn
    rcases Nat.lt_or_ge i l.length with hil | hil
    ·have hilz : (i : Int) < (l.length : Int) := by omega
     obtain ⟨ad2, e2, kq⟩ := Kd.at_int hci (i : Int) (by omega) hilz
     rw [rd_at l i hil] at kq
     have hbv : bytesAt l i = (min (max 0 l[i]) 140).toNat := by unfold bytesAt; rw [List.getElem?_eq_getElem hil]
     obtain ⟨x, hx⟩ : ∃ x, x = l[i] := ⟨_, rfl⟩
     rw [← hx] at kq hbv
     rw [Int.toNat_natCast] at kq
     subst e2
     clear hx hil hci
     by_cases hx0 : 0 < x
     ·by_cases hx1 : 140 < x
      ·have HEC := Aside0.mk (HEND.out 140 (by rw [hbv]; omega))
       have HFC := Aside0.mk (HFINE.out 140 (Nat.le_refl _))
       have s6 : ¬ 9223372036854775807 < min 140 a.f2.size + (y.size - 140) := by omega
       have s7 : 140 ≤ a.f2.size := by omega
       have s8 : 140 ≤ y.size := by omega
       have HCH := Aside0.mk (HCHG.out 140 (Nat.le_refl _))
       clear hbv HEND HFINE HCHG
       go_wp2_with fail
       refine start_ (n := 19) (S := fun w' => w'.cell? ⟨wr.heap.size, 1, none⟩ = some (.int .i64 q) ∧ w'.cell? ⟨wr.heap.size, 2, none⟩ = some (.string a.f2) ∧ w'.cell? ⟨L.g, 0, none⟩ = some (.slice (some ⟨L.sb, 0, none⟩) S'.stable.length S'.stable.length) ∧ w'.cell? ⟨L.sb, q, none⟩ = some (.string y)) (ds := [18]) #[false, false, false, false, false, false, false, false, false, false, false, false, false, false, false, false, false, false, false] (by kernel_rfl) rfl rfl ⟨n1, n2, k0, ks⟩ (fun hHeld => ?_)
       refine pure_ (i := 0) (N := some 35) (v := ?_) (a' := ?_) #[true, false, false, false, false, false, false, false, false, false, false, false, false, false, false, false, false, false, false] rfl rfl (by kernel_rfl) (fun _ _ _ h => h) (Or.inl ⟨by rfl, ?_⟩) ?_ ?_
       rotate_left
       ·intro w'
        go_simp
        with_reducible rfl
       rotate_left
       ·simp only [Act.put, List.setIfInBounds_toArray, List.set_cons_zero, List.set_cons_succ, i64_w, i32_w]
        rfl
       refine pure_ (i := 1) (N := some 36) (v := ?_) (a' := ?_) #[true, true, false, false, false, false, false, false, false, false, false, false, false, false, false, false, false, false, false] rfl rfl (by kernel_rfl) (fun _ _ _ h => h) (Or.inl ⟨by rfl, ?_⟩) ?_ ?_
       rotate_left
       ·intro w'
        go_simp
        with_reducible rfl
       rotate_left
       ·simp only [Act.put, List.setIfInBounds_toArray, List.set_cons_zero, List.set_cons_succ, i64_w, i32_w]
        rfl
       refine pure_ (i := 3) (N := some 38) (v := ?_) (a' := ?_) #[true, true, false, true, false, false, false, false, false, false, false, false, false, false, false, false, false, false, false] rfl rfl (by kernel_rfl) (fun _ _ _ h => h) (Or.inl ⟨by rfl, ?_⟩) ?_ ?_
       rotate_left
       ·intro w'
        go_simp
        with_reducible rfl
       rotate_left
       ·simp only [Act.put, List.setIfInBounds_toArray, List.set_cons_zero, List.set_cons_succ, i64_w, i32_w]
        rfl
       refine pure_ (i := 5) (N := some 40) (v := ?_) (a' := ?_) #[true, true, false, true, false, true, false, false, false, false, false, false, false, false, false, false, false, false, false] rfl rfl (by kernel_rfl) (fun _ _ _ h => h) (Or.inl ⟨by rfl, ?_⟩) ?_ ?_
       rotate_left
       ·intro w'
        go_simp
        with_reducible rfl
       rotate_left
       ·simp only [Act.put, List.setIfInBounds_toArray, List.set_cons_zero, List.set_cons_succ, i64_w, i32_w]
        rfl
       refine pure_ (i := 7) (N := some 42) (v := ?_) (a' := ?_) #[true, true, false, true, false, true, false, true, false, false, false, false, false, false, false, false, false, false, false] rfl rfl (by kernel_rfl) (fun _ _ _ h => h) (Or.inl ⟨by rfl, ?_⟩) ?_ ?_
       rotate_left
       ·intro w'
        go_simp
        with_reducible rfl
       rotate_left
       ·simp only [Act.put, List.setIfInBounds_toArray, List.set_cons_zero, List.set_cons_succ, i64_w, i32_w]
        rfl
       refine pure_ (i := 8) (N := some 43) (v := ?_) (a' := ?_) #[true, true, false, true, false, true, false, true, true, false, false, false, false, false, false, false, false, false, false] rfl rfl (by kernel_rfl) (fun _ _ _ h => h) (Or.inl ⟨by rfl, ?_⟩) ?_ ?_
       rotate_left
       ·intro w'
        go_simp
        with_reducible rfl
       rotate_left
       ·simp only [Act.put, List.setIfInBounds_toArray, List.set_cons_zero, List.set_cons_succ, i64_w, i32_w]
        rfl
       refine pure_ (i := 9) (N := some 44) (v := ?_) (a' := ?_) #[true, true, false, true, false, true, false, true, true, true, false, false, false, false, false, false, false, false, false] rfl rfl (by kernel_rfl) (fun _ _ _ h => h) (Or.inl ⟨by rfl, ?_⟩) ?_ ?_
       rotate_left
       ·intro w'
        go_simp
        with_reducible rfl
       rotate_left
       ·simp only [Act.put, List.setIfInBounds_toArray, List.set_cons_zero, List.set_cons_succ, i64_w, i32_w]
        rfl
       refine pure_ (i := 11) (N := some 46) (v := ?_) (a' := ?_) #[true, true, false, true, false, true, false, true, true, true, false, true, false, false, false, false, false, false, false] rfl rfl (by kernel_rfl) (fun _ _ _ h => h) (Or.inl ⟨by rfl, ?_⟩) ?_ ?_
       rotate_left
       ·intro w'
        go_simp
        with_reducible rfl
       rotate_left
       ·simp only [Act.put, List.setIfInBounds_toArray, List.set_cons_zero, List.set_cons_succ, i64_w, i32_w]
        rfl
       refine pure_ (i := 15) (N := some 50) (v := ?_) (a' := ?_) #[true, true, false, true, false, true, false, true, true, true, false, true, false, false, false, true, false, false, false] rfl rfl (by kernel_rfl) (fun _ _ _ h => h) (Or.inl ⟨by rfl, ?_⟩) ?_ ?_
       rotate_left
       ·intro w'
        go_simp
        with_reducible rfl
       rotate_left
       ·simp only [Act.put, List.setIfInBounds_toArray, List.set_cons_zero, List.set_cons_succ, i64_w, i32_w]
        rfl
       refine take_ (i := 2) (N := some 37) (v := ?_) (a' := ?_) #[true, true, true, true, false, true, false, true, true, true, false, true, false, false, false, true, false, false, false] rfl rfl (by kernel_rfl) (fun _ _ _ h => h) (Or.inl ⟨by rfl, ?_⟩) hHeld ?_ ?_
       rotate_left
       ·rintro w' ⟨s0, s1, s2, s3⟩
        go_simp
        with_reducible rfl
       rotate_left
       ·simp only [Act.put, List.setIfInBounds_toArray, List.set_cons_zero, List.set_cons_succ, i64_w, i32_w]
        rfl
       refine take_ (i := 4) (N := some 39) (v := ?_) (a' := ?_) #[true, true, true, true, true, true, false, true, true, true, false, true, false, false, false, true, false, false, false] rfl rfl (by kernel_rfl) (fun _ _ _ h => h) (Or.inl ⟨by rfl, ?_⟩) hHeld ?_ ?_
       rotate_left
       ·rintro w' ⟨s0, s1, s2, s3⟩
        go_simp
        with_reducible rfl
       rotate_left
       ·simp only [Act.put, List.setIfInBounds_toArray, List.set_cons_zero, List.set_cons_succ, i64_w, i32_w]
        rfl
       refine pure_ (i := 6) (N := some 41) (v := ?_) (a' := ?_) #[true, true, true, true, true, true, true, true, true, true, false, true, false, false, false, true, false, false, false] rfl rfl (by kernel_rfl) (fun _ _ _ h => h) (Or.inl ⟨by rfl, ?_⟩) ?_ ?_
       rotate_left
       ·intro w'
        go_simp
        with_reducible rfl
       rotate_left
       ·simp only [Act.put, List.setIfInBounds_toArray, List.set_cons_zero, List.set_cons_succ, i64_w, i32_w]
        rfl
       refine take_ (i := 10) (N := some 45) (v := ?_) (a' := ?_) #[true, true, true, true, true, true, true, true, true, true, true, true, false, false, false, true, false, false, false] rfl rfl (by kernel_rfl) (fun _ _ _ h => h) (Or.inl ⟨by rfl, ?_⟩) hHeld ?_ ?_
       rotate_left
       ·rintro w' ⟨s0, s1, s2, s3⟩
        go_simp
        with_reducible rfl
       rotate_left
       ·simp only [Act.put, List.setIfInBounds_toArray, List.set_cons_zero, List.set_cons_succ, i64_w, i32_w]
        rfl
       refine take_ (i := 12) (N := some 47) (v := ?_) (a' := ?_) #[true, true, true, true, true, true, true, true, true, true, true, true, true, false, false, true, false, false, false] rfl rfl (by kernel_rfl) (fun _ _ _ h => h) (Or.inl ⟨by rfl, ?_⟩) hHeld ?_ ?_
       rotate_left
       ·rintro w' ⟨s0, s1, s2, s3⟩
        go_simp
        with_reducible rfl
       rotate_left
       ·simp only [Act.put, List.setIfInBounds_toArray, List.set_cons_zero, List.set_cons_succ, i64_w, i32_w]
        rfl
       refine pure_ (i := 13) (N := some 48) (v := ?_) (a' := ?_) #[true, true, true, true, true, true, true, true, true, true, true, true, true, true, false, true, false, false, false] rfl rfl (by kernel_rfl) (fun _ _ _ h => h) (Or.inl ⟨by rfl, ?_⟩) ?_ ?_
       rotate_left
       ·intro w'
        go_simp
        with_reducible rfl
       rotate_left
       ·simp only [Act.put, List.setIfInBounds_toArray, List.set_cons_zero, List.set_cons_succ, i64_w, i32_w]
        rfl
       refine take_ (i := 14) (N := some 49) (v := ?_) (a' := ?_) #[true, true, true, true, true, true, true, true, true, true, true, true, true, true, true, true, false, false, false] rfl rfl (by kernel_rfl) (fun _ _ _ h => h) (Or.inl ⟨by rfl, ?_⟩) hHeld ?_ ?_
       rotate_left
       ·rintro w' ⟨s0, s1, s2, s3⟩
        go_simp
        with_reducible rfl
       rotate_left
       ·simp only [Act.put, List.setIfInBounds_toArray, List.set_cons_zero, List.set_cons_succ, i64_w, i32_w]
        rfl
       refine pure_ (i := 16) (N := some 51) (v := ?_) (a' := ?_) #[true, true, true, true, true, true, true, true, true, true, true, true, true, true, true, true, true, false, false] rfl rfl (by kernel_rfl) (fun _ _ _ h => h) (Or.inl ⟨by rfl, ?_⟩) ?_ ?_
       rotate_left
       ·intro w'
        go_simp
        with_reducible rfl
       rotate_left
       ·simp only [Act.put, List.setIfInBounds_toArray, List.set_cons_zero, List.set_cons_succ, i64_w, i32_w]
        rfl
       refine pure_ (i := 17) (N := some 52) (v := ?_) (a' := ?_) #[true, true, true, true, true, true, true, true, true, true, true, true, true, true, true, true, true, true, false] rfl rfl (by kernel_rfl) (fun _ _ _ h => h) (Or.inl ⟨by rfl, ?_⟩) ?_ ?_
       rotate_left
       ·intro w'
        go_simp
        with_reducible rfl
       rotate_left
       ·simp only [Act.put, List.setIfInBounds_toArray, List.set_cons_zero, List.set_cons_succ, i64_w, i32_w]
        rfl
       refine last_ (i := 18) (N := some 53) #[true, true, true, true, true, true, true, true, true, true, true, true, true, true, true, true, true, true, true] rfl rfl (by kernel_rfl) (by decide) (fun K hK => ?_)
       refine goes_ Try.func60 (by kernel_rfl) rfl #[.pointer (some ⟨L.g, 0, none⟩), .int .i64 q, .string (a.f2.extract 0 140 ++ y.extract 140 y.size)] (by rfl) rfl rfl (by simp only [List.map_toArray, List.map_cons, List.map_nil]; rfl) ?_
       with_reducible refine (HCH.out).mono ?_
       rintro e w3 ⟨rfl, hch⟩
       refine ⟨_, rfl, ?_⟩
       have HCH3 := Aside0.mk hch
       clear hch HCH
       refine hK.out _ _ ?_
       clear hK K
       refine norm_ (a' := ?_) ?_ ?_
       rotate_left
       ·show Act.put _ (some 53) _ = _
        simp only [Act.put, List.setIfInBounds_toArray, List.set_cons_zero, List.set_cons_succ, i64_w, i32_w]
        rfl
       refine done_ (by kernel_rfl) ?_
       go_wp2_with fail
       go_roundg (S.pend.length - (j + 1))
       case measure => omega
       case rel =>
        obtain ⟨vs3, F3, g1, g2, g3, g4⟩ := HCH3.out
        exact ⟨j + 1, i + 1, vs3, F3, changeS q (a.f2.extract 0 140 ++ y.extract 140 y.size) S', by go_num, by go_num, by omega, Nat.le_refl _, by omega, ⟨g1⟩, ⟨HFC.out⟩, ⟨HEC.out⟩, ⟨fun k z => (g2 k z).elim (fun z => HFF.out k z) (fun z => Or.inr (by have := HKR.out.1; have := HF1.out.size; simp at z; omega))⟩, ⟨(HKR.out.below HF1.out).then_ g3 (fun _ z => Or.inl z)⟩, ⟨(HBR.out.trans (HF1.out.drew.mono hB)).trans g4⟩⟩
      ·obtain ⟨b, rfl⟩ := Int.eq_ofNat_of_zero_le (show 0 ≤ x by omega)
       have HEC := Aside0.mk (HEND.out b (by rw [hbv]; omega))
       have HFC := Aside0.mk (HFINE.out b (by omega))
       have s6 : ¬ 9223372036854775807 < min b a.f2.size + (y.size - b) := by omega
       have s7 : b ≤ a.f2.size := by omega
       have s8 : b ≤ y.size := by omega
       have HCH := Aside0.mk (HCHG.out b (by omega))
       clear hbv HEND HFINE HCHG
       go_wp2_with fail
       refine start_ (n := 19) (S := fun w' => w'.cell? ⟨wr.heap.size, 1, none⟩ = some (.int .i64 q) ∧ w'.cell? ⟨wr.heap.size, 2, none⟩ = some (.string a.f2) ∧ w'.cell? ⟨L.g, 0, none⟩ = some (.slice (some ⟨L.sb, 0, none⟩) S'.stable.length S'.stable.length) ∧ w'.cell? ⟨L.sb, q, none⟩ = some (.string y)) (ds := [18]) #[false, false, false, false, false, false, false, false, false, false, false, false, false, false, false, false, false, false, false] (by kernel_rfl) rfl rfl ⟨n1, n2, k0, ks⟩ (fun hHeld => ?_)
       refine pure_ (i := 0) (N := some 35) (v := ?_) (a' := ?_) #[true, false, false, false, false, false, false, false, false, false, false, false, false, false, false, false, false, false, false] rfl rfl (by kernel_rfl) (fun _ _ _ h => h) (Or.inl ⟨by rfl, ?_⟩) ?_ ?_
       rotate_left
       ·intro w'
        go_simp
        with_reducible rfl
       rotate_left
       ·simp only [Act.put, List.setIfInBounds_toArray, List.set_cons_zero, List.set_cons_succ, i64_w, i32_w]
        rfl
       refine pure_ (i := 1) (N := some 36) (v := ?_) (a' := ?_) #[true, true, false, false, false, false, false, false, false, false, false, false, false, false, false, false, false, false, false] rfl rfl (by kernel_rfl) (fun _ _ _ h => h) (Or.inl ⟨by rfl, ?_⟩) ?_ ?_
       rotate_left
       ·intro w'
        go_simp
        with_reducible rfl
       rotate_left
       ·simp only [Act.put, List.setIfInBounds_toArray, List.set_cons_zero, List.set_cons_succ, i64_w, i32_w]
        rfl
       refine pure_ (i := 3) (N := some 38) (v := ?_) (a' := ?_) #[true, true, false, true, false, false, false, false, false, false, false, false, false, false, false, false, false, false, false] rfl rfl (by kernel_rfl) (fun _ _ _ h => h) (Or.inl ⟨by rfl, ?_⟩) ?_ ?_
       rotate_left
       ·intro w'
        go_simp
        with_reducible rfl
       rotate_left
       ·simp only [Act.put, List.setIfInBounds_toArray, List.set_cons_zero, List.set_cons_succ, i64_w, i32_w]
        rfl
       refine pure_ (i := 5) (N := some 40) (v := ?_) (a' := ?_) #[true, true, false, true, false, true, false, false, false, false, false, false, false, false, false, false, false, false, false] rfl rfl (by kernel_rfl) (fun _ _ _ h => h) (Or.inl ⟨by rfl, ?_⟩) ?_ ?_
       rotate_left
       ·intro w'
        go_simp
        with_reducible rfl
       rotate_left
       ·simp only [Act.put, List.setIfInBounds_toArray, List.set_cons_zero, List.set_cons_succ, i64_w, i32_w]
        rfl
       refine pure_ (i := 7) (N := some 42) (v := ?_) (a' := ?_) #[true, true, false, true, false, true, false, true, false, false, false, false, false, false, false, false, false, false, false] rfl rfl (by kernel_rfl) (fun _ _ _ h => h) (Or.inl ⟨by rfl, ?_⟩) ?_ ?_
       rotate_left
       ·intro w'
        go_simp
        with_reducible rfl
       rotate_left
       ·simp only [Act.put, List.setIfInBounds_toArray, List.set_cons_zero, List.set_cons_succ, i64_w, i32_w]
        rfl
       refine pure_ (i := 8) (N := some 43) (v := ?_) (a' := ?_) #[true, true, false, true, false, true, false, true, true, false, false, false, false, false, false, false, false, false, false] rfl rfl (by kernel_rfl) (fun _ _ _ h => h) (Or.inl ⟨by rfl, ?_⟩) ?_ ?_
       rotate_left
       ·intro w'
        go_simp
        with_reducible rfl
       rotate_left
       ·simp only [Act.put, List.setIfInBounds_toArray, List.set_cons_zero, List.set_cons_succ, i64_w, i32_w]
        rfl
       refine pure_ (i := 9) (N := some 44) (v := ?_) (a' := ?_) #[true, true, false, true, false, true, false, true, true, true, false, false, false, false, false, false, false, false, false] rfl rfl (by kernel_rfl) (fun _ _ _ h => h) (Or.inl ⟨by rfl, ?_⟩) ?_ ?_
       rotate_left
       ·intro w'
        go_simp
        with_reducible rfl
       rotate_left
       ·simp only [Act.put, List.setIfInBounds_toArray, List.set_cons_zero, List.set_cons_succ, i64_w, i32_w]
        rfl
       refine pure_ (i := 11) (N := some 46) (v := ?_) (a' := ?_) #[true, true, false, true, false, true, false, true, true, true, false, true, false, false, false, false, false, false, false] rfl rfl (by kernel_rfl) (fun _ _ _ h => h) (Or.inl ⟨by rfl, ?_⟩) ?_ ?_
       rotate_left
       ·intro w'
        go_simp
        with_reducible rfl
       rotate_left
       ·simp only [Act.put, List.setIfInBounds_toArray, List.set_cons_zero, List.set_cons_succ, i64_w, i32_w]
        rfl
       refine pure_ (i := 15) (N := some 50) (v := ?_) (a' := ?_) #[true, true, false, true, false, true, false, true, true, true, false, true, false, false, false, true, false, false, false] rfl rfl (by kernel_rfl) (fun _ _ _ h => h) (Or.inl ⟨by rfl, ?_⟩) ?_ ?_
       rotate_left
       ·intro w'
        go_simp
        with_reducible rfl
       rotate_left
       ·simp only [Act.put, List.setIfInBounds_toArray, List.set_cons_zero, List.set_cons_succ, i64_w, i32_w]
        rfl
       refine take_ (i := 2) (N := some 37) (v := ?_) (a' := ?_) #[true, true, true, true, false, true, false, true, true, true, false, true, false, false, false, true, false, false, false] rfl rfl (by kernel_rfl) (fun _ _ _ h => h) (Or.inl ⟨by rfl, ?_⟩) hHeld ?_ ?_
       rotate_left
       ·rintro w' ⟨s0, s1, s2, s3⟩
        go_simp
        with_reducible rfl
       rotate_left
       ·simp only [Act.put, List.setIfInBounds_toArray, List.set_cons_zero, List.set_cons_succ, i64_w, i32_w]
        rfl
       refine take_ (i := 4) (N := some 39) (v := ?_) (a' := ?_) #[true, true, true, true, true, true, false, true, true, true, false, true, false, false, false, true, false, false, false] rfl rfl (by kernel_rfl) (fun _ _ _ h => h) (Or.inl ⟨by rfl, ?_⟩) hHeld ?_ ?_
       rotate_left
       ·rintro w' ⟨s0, s1, s2, s3⟩
        go_simp
        with_reducible rfl
       rotate_left
       ·simp only [Act.put, List.setIfInBounds_toArray, List.set_cons_zero, List.set_cons_succ, i64_w, i32_w]
        rfl
       refine pure_ (i := 6) (N := some 41) (v := ?_) (a' := ?_) #[true, true, true, true, true, true, true, true, true, true, false, true, false, false, false, true, false, false, false] rfl rfl (by kernel_rfl) (fun _ _ _ h => h) (Or.inl ⟨by rfl, ?_⟩) ?_ ?_
       rotate_left
       ·intro w'
        go_simp
        with_reducible rfl
       rotate_left
       ·simp only [Act.put, List.setIfInBounds_toArray, List.set_cons_zero, List.set_cons_succ, i64_w, i32_w]
        rfl
       refine take_ (i := 10) (N := some 45) (v := ?_) (a' := ?_) #[true, true, true, true, true, true, true, true, true, true, true, true, false, false, false, true, false, false, false] rfl rfl (by kernel_rfl) (fun _ _ _ h => h) (Or.inl ⟨by rfl, ?_⟩) hHeld ?_ ?_
       rotate_left
       ·rintro w' ⟨s0, s1, s2, s3⟩
        go_simp
        with_reducible rfl
       rotate_left
       ·simp only [Act.put, List.setIfInBounds_toArray, List.set_cons_zero, List.set_cons_succ, i64_w, i32_w]
        rfl
       refine take_ (i := 12) (N := some 47) (v := ?_) (a' := ?_) #[true, true, true, true, true, true, true, true, true, true, true, true, true, false, false, true, false, false, false] rfl rfl (by kernel_rfl) (fun _ _ _ h => h) (Or.inl ⟨by rfl, ?_⟩) hHeld ?_ ?_
       rotate_left
       ·rintro w' ⟨s0, s1, s2, s3⟩
        go_simp
        with_reducible rfl
       rotate_left
       ·simp only [Act.put, List.setIfInBounds_toArray, List.set_cons_zero, List.set_cons_succ, i64_w, i32_w]
        rfl
       refine pure_ (i := 13) (N := some 48) (v := ?_) (a' := ?_) #[true, true, true, true, true, true, true, true, true, true, true, true, true, true, false, true, false, false, false] rfl rfl (by kernel_rfl) (fun _ _ _ h => h) (Or.inl ⟨by rfl, ?_⟩) ?_ ?_
       rotate_left
       ·intro w'
        go_simp
        with_reducible rfl
       rotate_left
       ·simp only [Act.put, List.setIfInBounds_toArray, List.set_cons_zero, List.set_cons_succ, i64_w, i32_w]
        rfl
       refine take_ (i := 14) (N := some 49) (v := ?_) (a' := ?_) #[true, true, true, true, true, true, true, true, true, true, true, true, true, true, true, true, false, false, false] rfl rfl (by kernel_rfl) (fun _ _ _ h => h) (Or.inl ⟨by rfl, ?_⟩) hHeld ?_ ?_
       rotate_left
       ·rintro w' ⟨s0, s1, s2, s3⟩
        go_simp
        with_reducible rfl
       rotate_left
       ·simp only [Act.put, List.setIfInBounds_toArray, List.set_cons_zero, List.set_cons_succ, i64_w, i32_w]
        rfl
       refine pure_ (i := 16) (N := some 51) (v := ?_) (a' := ?_) #[true, true, true, true, true, true, true, true, true, true, true, true, true, true, true, true, true, false, false] rfl rfl (by kernel_rfl) (fun _ _ _ h => h) (Or.inl ⟨by rfl, ?_⟩) ?_ ?_
       rotate_left
       ·intro w'
        go_simp
        with_reducible rfl
       rotate_left
       ·simp only [Act.put, List.setIfInBounds_toArray, List.set_cons_zero, List.set_cons_succ, i64_w, i32_w]
        rfl
       refine pure_ (i := 17) (N := some 52) (v := ?_) (a' := ?_) #[true, true, true, true, true, true, true, true, true, true, true, true, true, true, true, true, true, true, false] rfl rfl (by kernel_rfl) (fun _ _ _ h => h) (Or.inl ⟨by rfl, ?_⟩) ?_ ?_
       rotate_left
       ·intro w'
        go_simp
        with_reducible rfl
       rotate_left
       ·simp only [Act.put, List.setIfInBounds_toArray, List.set_cons_zero, List.set_cons_succ, i64_w, i32_w]
        rfl
       refine last_ (i := 18) (N := some 53) #[true, true, true, true, true, true, true, true, true, true, true, true, true, true, true, true, true, true, true] rfl rfl (by kernel_rfl) (by decide) (fun K hK => ?_)
       refine goes_ Try.func60 (by kernel_rfl) rfl #[.pointer (some ⟨L.g, 0, none⟩), .int .i64 q, .string (a.f2.extract 0 b ++ y.extract b y.size)] (by rfl) rfl rfl (by simp only [List.map_toArray, List.map_cons, List.map_nil]; rfl) ?_
       with_reducible refine (HCH.out).mono ?_
       rintro e w3 ⟨rfl, hch⟩
       refine ⟨_, rfl, ?_⟩
       have HCH3 := Aside0.mk hch
       clear hch HCH
       refine hK.out _ _ ?_
       clear hK K
       refine norm_ (a' := ?_) ?_ ?_
       rotate_left
       ·show Act.put _ (some 53) _ = _
        simp only [Act.put, List.setIfInBounds_toArray, List.set_cons_zero, List.set_cons_succ, i64_w, i32_w]
        rfl
       refine done_ (by kernel_rfl) ?_
       go_wp2_with fail
       go_roundg (S.pend.length - (j + 1))
       case measure => omega
       case rel =>
        obtain ⟨vs3, F3, g1, g2, g3, g4⟩ := HCH3.out
        exact ⟨j + 1, i + 1, vs3, F3, changeS q (a.f2.extract 0 b ++ y.extract b y.size) S', by go_num, by go_num, by omega, Nat.le_refl _, by omega, ⟨g1⟩, ⟨HFC.out⟩, ⟨HEC.out⟩, ⟨fun k z => (g2 k z).elim (fun z => HFF.out k z) (fun z => Or.inr (by have := HKR.out.1; have := HF1.out.size; simp at z; omega))⟩, ⟨(HKR.out.below HF1.out).then_ g3 (fun _ z => Or.inl z)⟩, ⟨(HBR.out.trans (HF1.out.drew.mono hB)).trans g4⟩⟩
     ·have hye : a.f2.extract 0 0 ++ y.extract 0 y.size = y := by simp
      have HEC := Aside0.mk (HEND.out 0 (by rw [hbv]; omega))
      have HFC := Aside0.mk (HFINE.out 0 (Nat.zero_le _))
      have HCH := Aside0.mk (HCHG.out 0 (Nat.zero_le _))
      rw [hye] at HEC HFC HCH
      clear hye hbv HEND HFINE HCHG
      go_wp2_with fail
      refine start_ (n := 19) (S := fun w' => w'.cell? ⟨wr.heap.size, 1, none⟩ = some (.int .i64 q) ∧ w'.cell? ⟨wr.heap.size, 2, none⟩ = some (.string a.f2) ∧ w'.cell? ⟨L.g, 0, none⟩ = some (.slice (some ⟨L.sb, 0, none⟩) S'.stable.length S'.stable.length) ∧ w'.cell? ⟨L.sb, q, none⟩ = some (.string y)) (ds := [18]) #[false, false, false, false, false, false, false, false, false, false, false, false, false, false, false, false, false, false, false] (by kernel_rfl) rfl rfl ⟨n1, n2, k0, ks⟩ (fun hHeld => ?_)
      refine pure_ (i := 0) (N := some 35) (v := ?_) (a' := ?_) #[true, false, false, false, false, false, false, false, false, false, false, false, false, false, false, false, false, false, false] rfl rfl (by kernel_rfl) (fun _ _ _ h => h) (Or.inl ⟨by rfl, ?_⟩) ?_ ?_
      rotate_left
      ·intro w'
       go_simp
       with_reducible rfl
      rotate_left
      ·simp only [Act.put, List.setIfInBounds_toArray, List.set_cons_zero, List.set_cons_succ, i64_w, i32_w]
       rfl
      refine pure_ (i := 1) (N := some 36) (v := ?_) (a' := ?_) #[true, true, false, false, false, false, false, false, false, false, false, false, false, false, false, false, false, false, false] rfl rfl (by kernel_rfl) (fun _ _ _ h => h) (Or.inl ⟨by rfl, ?_⟩) ?_ ?_
      rotate_left
      ·intro w'
       go_simp
       with_reducible rfl
      rotate_left
      ·simp only [Act.put, List.setIfInBounds_toArray, List.set_cons_zero, List.set_cons_succ, i64_w, i32_w]
       rfl
      refine pure_ (i := 3) (N := some 38) (v := ?_) (a' := ?_) #[true, true, false, true, false, false, false, false, false, false, false, false, false, false, false, false, false, false, false] rfl rfl (by kernel_rfl) (fun _ _ _ h => h) (Or.inl ⟨by rfl, ?_⟩) ?_ ?_
      rotate_left
      ·intro w'
       go_simp
       with_reducible rfl
      rotate_left
      ·simp only [Act.put, List.setIfInBounds_toArray, List.set_cons_zero, List.set_cons_succ, i64_w, i32_w]
       rfl
      refine pure_ (i := 5) (N := some 40) (v := ?_) (a' := ?_) #[true, true, false, true, false, true, false, false, false, false, false, false, false, false, false, false, false, false, false] rfl rfl (by kernel_rfl) (fun _ _ _ h => h) (Or.inl ⟨by rfl, ?_⟩) ?_ ?_
      rotate_left
      ·intro w'
       go_simp
       with_reducible rfl
      rotate_left
      ·simp only [Act.put, List.setIfInBounds_toArray, List.set_cons_zero, List.set_cons_succ, i64_w, i32_w]
       rfl
      refine pure_ (i := 7) (N := some 42) (v := ?_) (a' := ?_) #[true, true, false, true, false, true, false, true, false, false, false, false, false, false, false, false, false, false, false] rfl rfl (by kernel_rfl) (fun _ _ _ h => h) (Or.inl ⟨by rfl, ?_⟩) ?_ ?_
      rotate_left
      ·intro w'
       go_simp
       with_reducible rfl
      rotate_left
      ·simp only [Act.put, List.setIfInBounds_toArray, List.set_cons_zero, List.set_cons_succ, i64_w, i32_w]
       rfl
      refine pure_ (i := 8) (N := some 43) (v := ?_) (a' := ?_) #[true, true, false, true, false, true, false, true, true, false, false, false, false, false, false, false, false, false, false] rfl rfl (by kernel_rfl) (fun _ _ _ h => h) (Or.inl ⟨by rfl, ?_⟩) ?_ ?_
      rotate_left
      ·intro w'
       go_simp
       with_reducible rfl
      rotate_left
      ·simp only [Act.put, List.setIfInBounds_toArray, List.set_cons_zero, List.set_cons_succ, i64_w, i32_w]
       rfl
      refine pure_ (i := 9) (N := some 44) (v := ?_) (a' := ?_) #[true, true, false, true, false, true, false, true, true, true, false, false, false, false, false, false, false, false, false] rfl rfl (by kernel_rfl) (fun _ _ _ h => h) (Or.inl ⟨by rfl, ?_⟩) ?_ ?_
      rotate_left
      ·intro w'
       go_simp
       with_reducible rfl
      rotate_left
      ·simp only [Act.put, List.setIfInBounds_toArray, List.set_cons_zero, List.set_cons_succ, i64_w, i32_w]
       rfl
      refine pure_ (i := 11) (N := some 46) (v := ?_) (a' := ?_) #[true, true, false, true, false, true, false, true, true, true, false, true, false, false, false, false, false, false, false] rfl rfl (by kernel_rfl) (fun _ _ _ h => h) (Or.inl ⟨by rfl, ?_⟩) ?_ ?_
      rotate_left
      ·intro w'
       go_simp
       with_reducible rfl
      rotate_left
      ·simp only [Act.put, List.setIfInBounds_toArray, List.set_cons_zero, List.set_cons_succ, i64_w, i32_w]
       rfl
      refine pure_ (i := 15) (N := some 50) (v := ?_) (a' := ?_) #[true, true, false, true, false, true, false, true, true, true, false, true, false, false, false, true, false, false, false] rfl rfl (by kernel_rfl) (fun _ _ _ h => h) (Or.inl ⟨by rfl, ?_⟩) ?_ ?_
      rotate_left
      ·intro w'
       go_simp
       with_reducible rfl
      rotate_left
      ·simp only [Act.put, List.setIfInBounds_toArray, List.set_cons_zero, List.set_cons_succ, i64_w, i32_w]
       rfl
      refine take_ (i := 2) (N := some 37) (v := ?_) (a' := ?_) #[true, true, true, true, false, true, false, true, true, true, false, true, false, false, false, true, false, false, false] rfl rfl (by kernel_rfl) (fun _ _ _ h => h) (Or.inl ⟨by rfl, ?_⟩) hHeld ?_ ?_
      rotate_left
      ·rintro w' ⟨s0, s1, s2, s3⟩
       go_simp
       with_reducible rfl
      rotate_left
      ·simp only [Act.put, List.setIfInBounds_toArray, List.set_cons_zero, List.set_cons_succ, i64_w, i32_w]
       rfl
      refine take_ (i := 4) (N := some 39) (v := ?_) (a' := ?_) #[true, true, true, true, true, true, false, true, true, true, false, true, false, false, false, true, false, false, false] rfl rfl (by kernel_rfl) (fun _ _ _ h => h) (Or.inl ⟨by rfl, ?_⟩) hHeld ?_ ?_
      rotate_left
      ·rintro w' ⟨s0, s1, s2, s3⟩
       go_simp
       with_reducible rfl
      rotate_left
      ·simp only [Act.put, List.setIfInBounds_toArray, List.set_cons_zero, List.set_cons_succ, i64_w, i32_w]
       rfl
      refine pure_ (i := 6) (N := some 41) (v := ?_) (a' := ?_) #[true, true, true, true, true, true, true, true, true, true, false, true, false, false, false, true, false, false, false] rfl rfl (by kernel_rfl) (fun _ _ _ h => h) (Or.inl ⟨by rfl, ?_⟩) ?_ ?_
      rotate_left
      ·intro w'
       go_simp
       with_reducible rfl
      rotate_left
      ·simp only [Act.put, List.setIfInBounds_toArray, List.set_cons_zero, List.set_cons_succ, i64_w, i32_w]
       rfl
      refine take_ (i := 10) (N := some 45) (v := ?_) (a' := ?_) #[true, true, true, true, true, true, true, true, true, true, true, true, false, false, false, true, false, false, false] rfl rfl (by kernel_rfl) (fun _ _ _ h => h) (Or.inl ⟨by rfl, ?_⟩) hHeld ?_ ?_
      rotate_left
      ·rintro w' ⟨s0, s1, s2, s3⟩
       go_simp
       with_reducible rfl
      rotate_left
      ·simp only [Act.put, List.setIfInBounds_toArray, List.set_cons_zero, List.set_cons_succ, i64_w, i32_w]
       rfl
      refine take_ (i := 12) (N := some 47) (v := ?_) (a' := ?_) #[true, true, true, true, true, true, true, true, true, true, true, true, true, false, false, true, false, false, false] rfl rfl (by kernel_rfl) (fun _ _ _ h => h) (Or.inl ⟨by rfl, ?_⟩) hHeld ?_ ?_
      rotate_left
      ·rintro w' ⟨s0, s1, s2, s3⟩
       go_simp
       with_reducible rfl
      rotate_left
      ·simp only [Act.put, List.setIfInBounds_toArray, List.set_cons_zero, List.set_cons_succ, i64_w, i32_w]
       rfl
      refine pure_ (i := 13) (N := some 48) (v := ?_) (a' := ?_) #[true, true, true, true, true, true, true, true, true, true, true, true, true, true, false, true, false, false, false] rfl rfl (by kernel_rfl) (fun _ _ _ h => h) (Or.inl ⟨by rfl, ?_⟩) ?_ ?_
      rotate_left
      ·intro w'
       go_simp
       with_reducible rfl
      rotate_left
      ·simp only [Act.put, List.setIfInBounds_toArray, List.set_cons_zero, List.set_cons_succ, i64_w, i32_w]
       rfl
      refine take_ (i := 14) (N := some 49) (v := ?_) (a' := ?_) #[true, true, true, true, true, true, true, true, true, true, true, true, true, true, true, true, false, false, false] rfl rfl (by kernel_rfl) (fun _ _ _ h => h) (Or.inl ⟨by rfl, ?_⟩) hHeld ?_ ?_
      rotate_left
      ·rintro w' ⟨s0, s1, s2, s3⟩
       go_simp
       with_reducible rfl
      rotate_left
      ·simp only [Act.put, List.setIfInBounds_toArray, List.set_cons_zero, List.set_cons_succ, i64_w, i32_w]
       rfl
      refine pure_ (i := 16) (N := some 51) (v := ?_) (a' := ?_) #[true, true, true, true, true, true, true, true, true, true, true, true, true, true, true, true, true, false, false] rfl rfl (by kernel_rfl) (fun _ _ _ h => h) (Or.inl ⟨by rfl, ?_⟩) ?_ ?_
      rotate_left
      ·intro w'
       go_simp
       with_reducible rfl
      rotate_left
      ·simp only [Act.put, List.setIfInBounds_toArray, List.set_cons_zero, List.set_cons_succ, i64_w, i32_w]
       rfl
      refine pure_ (i := 17) (N := some 52) (v := ?_) (a' := ?_) #[true, true, true, true, true, true, true, true, true, true, true, true, true, true, true, true, true, true, false] rfl rfl (by kernel_rfl) (fun _ _ _ h => h) (Or.inl ⟨by rfl, ?_⟩) ?_ ?_
      rotate_left
      ·intro w'
       go_simp
       with_reducible rfl
      rotate_left
      ·simp only [Act.put, List.setIfInBounds_toArray, List.set_cons_zero, List.set_cons_succ, i64_w, i32_w]
       rfl
      refine last_ (i := 18) (N := some 53) #[true, true, true, true, true, true, true, true, true, true, true, true, true, true, true, true, true, true, true] rfl rfl (by kernel_rfl) (by decide) (fun K hK => ?_)
      refine goes_ Try.func60 (by kernel_rfl) rfl #[.pointer (some ⟨L.g, 0, none⟩), .int .i64 q, .string y] (by rfl) rfl rfl (by simp only [List.map_toArray, List.map_cons, List.map_nil]; rfl) ?_
      with_reducible refine (HCH.out).mono ?_
      rintro e w3 ⟨rfl, hch⟩
      refine ⟨_, rfl, ?_⟩
      have HCH3 := Aside0.mk hch
      clear hch HCH
      refine hK.out _ _ ?_
      clear hK K
      refine norm_ (a' := ?_) ?_ ?_
      rotate_left
      ·show Act.put _ (some 53) _ = _
       simp only [Act.put, List.setIfInBounds_toArray, List.set_cons_zero, List.set_cons_succ, i64_w, i32_w]
       rfl
      refine done_ (by kernel_rfl) ?_
      go_wp2_with fail
      go_roundg (S.pend.length - (j + 1))
      case measure => omega
      case rel =>
       obtain ⟨vs3, F3, g1, g2, g3, g4⟩ := HCH3.out
       exact ⟨j + 1, i + 1, vs3, F3, changeS q y S', by go_num, by go_num, by omega, Nat.le_refl _, by omega, ⟨g1⟩, ⟨HFC.out⟩, ⟨HEC.out⟩, ⟨fun k z => (g2 k z).elim (fun z => HFF.out k z) (fun z => Or.inr (by have := HKR.out.1; have := HF1.out.size; simp at z; omega))⟩, ⟨(HKR.out.below HF1.out).then_ g3 (fun _ z => Or.inl z)⟩, ⟨(HBR.out.trans (HF1.out.drew.mono hB)).trans g4⟩⟩
    ·have hilz : ¬ (i : Int) < (l.length : Int) := by omega
     have hye : a.f2.extract 0 0 ++ y.extract 0 y.size = y := by simp
     have HEC := Aside0.mk (HEND.out 0 (by unfold bytesAt; rw [List.getElem?_eq_none hil]))
     have HFC := Aside0.mk (HFINE.out 0 (Nat.zero_le _))
     have HCH := Aside0.mk (HCHG.out 0 (Nat.zero_le _))
     rw [hye] at HEC HFC HCH
     clear hye hil hci HEND HFINE HCHG
     go_wp2_with fail
     refine start_ (n := 19) (S := fun w' => w'.cell? ⟨wr.heap.size, 1, none⟩ = some (.int .i64 q) ∧ w'.cell? ⟨wr.heap.size, 2, none⟩ = some (.string a.f2) ∧ w'.cell? ⟨L.g, 0, none⟩ = some (.slice (some ⟨L.sb, 0, none⟩) S'.stable.length S'.stable.length) ∧ w'.cell? ⟨L.sb, q, none⟩ = some (.string y)) (ds := [18]) #[false, false, false, false, false, false, false, false, false, false, false, false, false, false, false, false, false, false, false] (by kernel_rfl) rfl rfl ⟨n1, n2, k0, ks⟩ (fun hHeld => ?_)
     refine pure_ (i := 0) (N := some 35) (v := ?_) (a' := ?_) #[true, false, false, false, false, false, false, false, false, false, false, false, false, false, false, false, false, false, false] rfl rfl (by kernel_rfl) (fun _ _ _ h => h) (Or.inl ⟨by rfl, ?_⟩) ?_ ?_
     rotate_left
     ·intro w'
      go_simp
      with_reducible rfl
     rotate_left
     ·simp only [Act.put, List.setIfInBounds_toArray, List.set_cons_zero, List.set_cons_succ, i64_w, i32_w]
      rfl
     refine pure_ (i := 1) (N := some 36) (v := ?_) (a' := ?_) #[true, true, false, false, false, false, false, false, false, false, false, false, false, false, false, false, false, false, false] rfl rfl (by kernel_rfl) (fun _ _ _ h => h) (Or.inl ⟨by rfl, ?_⟩) ?_ ?_
     rotate_left
     ·intro w'
      go_simp
      with_reducible rfl
     rotate_left
     ·simp only [Act.put, List.setIfInBounds_toArray, List.set_cons_zero, List.set_cons_succ, i64_w, i32_w]
      rfl
     refine pure_ (i := 3) (N := some 38) (v := ?_) (a' := ?_) #[true, true, false, true, false, false, false, false, false, false, false, false, false, false, false, false, false, false, false] rfl rfl (by kernel_rfl) (fun _ _ _ h => h) (Or.inl ⟨by rfl, ?_⟩) ?_ ?_
     rotate_left
     ·intro w'
      go_simp
      with_reducible rfl
     rotate_left
     ·simp only [Act.put, List.setIfInBounds_toArray, List.set_cons_zero, List.set_cons_succ, i64_w, i32_w]
      rfl
     refine pure_ (i := 5) (N := some 40) (v := ?_) (a' := ?_) #[true, true, false, true, false, true, false, false, false, false, false, false, false, false, false, false, false, false, false] rfl rfl (by kernel_rfl) (fun _ _ _ h => h) (Or.inl ⟨by rfl, ?_⟩) ?_ ?_
     rotate_left
     ·intro w'
      go_simp
      with_reducible rfl
     rotate_left
     ·simp only [Act.put, List.setIfInBounds_toArray, List.set_cons_zero, List.set_cons_succ, i64_w, i32_w]
      rfl
     refine pure_ (i := 7) (N := some 42) (v := ?_) (a' := ?_) #[true, true, false, true, false, true, false, true, false, false, false, false, false, false, false, false, false, false, false] rfl rfl (by kernel_rfl) (fun _ _ _ h => h) (Or.inl ⟨by rfl, ?_⟩) ?_ ?_
     rotate_left
     ·intro w'
      go_simp
      with_reducible rfl
     rotate_left
     ·simp only [Act.put, List.setIfInBounds_toArray, List.set_cons_zero, List.set_cons_succ, i64_w, i32_w]
      rfl
     refine pure_ (i := 8) (N := some 43) (v := ?_) (a' := ?_) #[true, true, false, true, false, true, false, true, true, false, false, false, false, false, false, false, false, false, false] rfl rfl (by kernel_rfl) (fun _ _ _ h => h) (Or.inl ⟨by rfl, ?_⟩) ?_ ?_
     rotate_left
     ·intro w'
      go_simp
      with_reducible rfl
     rotate_left
     ·simp only [Act.put, List.setIfInBounds_toArray, List.set_cons_zero, List.set_cons_succ, i64_w, i32_w]
      rfl
     refine pure_ (i := 9) (N := some 44) (v := ?_) (a' := ?_) #[true, true, false, true, false, true, false, true, true, true, false, false, false, false, false, false, false, false, false] rfl rfl (by kernel_rfl) (fun _ _ _ h => h) (Or.inl ⟨by rfl, ?_⟩) ?_ ?_
     rotate_left
     ·intro w'
      go_simp
      with_reducible rfl
     rotate_left
     ·simp only [Act.put, List.setIfInBounds_toArray, List.set_cons_zero, List.set_cons_succ, i64_w, i32_w]
      rfl
     refine pure_ (i := 11) (N := some 46) (v := ?_) (a' := ?_) #[true, true, false, true, false, true, false, true, true, true, false, true, false, false, false, false, false, false, false] rfl rfl (by kernel_rfl) (fun _ _ _ h => h) (Or.inl ⟨by rfl, ?_⟩) ?_ ?_
     rotate_left
     ·intro w'
      go_simp
      with_reducible rfl
     rotate_left
     ·simp only [Act.put, List.setIfInBounds_toArray, List.set_cons_zero, List.set_cons_succ, i64_w, i32_w]
      rfl
     refine pure_ (i := 15) (N := some 50) (v := ?_) (a' := ?_) #[true, true, false, true, false, true, false, true, true, true, false, true, false, false, false, true, false, false, false] rfl rfl (by kernel_rfl) (fun _ _ _ h => h) (Or.inl ⟨by rfl, ?_⟩) ?_ ?_
     rotate_left
     ·intro w'
      go_simp
      with_reducible rfl
     rotate_left
     ·simp only [Act.put, List.setIfInBounds_toArray, List.set_cons_zero, List.set_cons_succ, i64_w, i32_w]
      rfl
     refine take_ (i := 2) (N := some 37) (v := ?_) (a' := ?_) #[true, true, true, true, false, true, false, true, true, true, false, true, false, false, false, true, false, false, false] rfl rfl (by kernel_rfl) (fun _ _ _ h => h) (Or.inl ⟨by rfl, ?_⟩) hHeld ?_ ?_
     rotate_left
     ·rintro w' ⟨s0, s1, s2, s3⟩
      go_simp
      with_reducible rfl
     rotate_left
     ·simp only [Act.put, List.setIfInBounds_toArray, List.set_cons_zero, List.set_cons_succ, i64_w, i32_w]
      rfl
     refine take_ (i := 4) (N := some 39) (v := ?_) (a' := ?_) #[true, true, true, true, true, true, false, true, true, true, false, true, false, false, false, true, false, false, false] rfl rfl (by kernel_rfl) (fun _ _ _ h => h) (Or.inl ⟨by rfl, ?_⟩) hHeld ?_ ?_
     rotate_left
     ·rintro w' ⟨s0, s1, s2, s3⟩
      go_simp
      with_reducible rfl
     rotate_left
     ·simp only [Act.put, List.setIfInBounds_toArray, List.set_cons_zero, List.set_cons_succ, i64_w, i32_w]
      rfl
     refine pure_ (i := 6) (N := some 41) (v := ?_) (a' := ?_) #[true, true, true, true, true, true, true, true, true, true, false, true, false, false, false, true, false, false, false] rfl rfl (by kernel_rfl) (fun _ _ _ h => h) (Or.inl ⟨by rfl, ?_⟩) ?_ ?_
     rotate_left
     ·intro w'
      go_simp
      with_reducible rfl
     rotate_left
     ·simp only [Act.put, List.setIfInBounds_toArray, List.set_cons_zero, List.set_cons_succ, i64_w, i32_w]
      rfl
     refine take_ (i := 10) (N := some 45) (v := ?_) (a' := ?_) #[true, true, true, true, true, true, true, true, true, true, true, true, false, false, false, true, false, false, false] rfl rfl (by kernel_rfl) (fun _ _ _ h => h) (Or.inl ⟨by rfl, ?_⟩) hHeld ?_ ?_
     rotate_left
     ·rintro w' ⟨s0, s1, s2, s3⟩
      go_simp
      with_reducible rfl
     rotate_left
     ·simp only [Act.put, List.setIfInBounds_toArray, List.set_cons_zero, List.set_cons_succ, i64_w, i32_w]
      rfl
     refine take_ (i := 12) (N := some 47) (v := ?_) (a' := ?_) #[true, true, true, true, true, true, true, true, true, true, true, true, true, false, false, true, false, false, false] rfl rfl (by kernel_rfl) (fun _ _ _ h => h) (Or.inl ⟨by rfl, ?_⟩) hHeld ?_ ?_
     rotate_left
     ·rintro w' ⟨s0, s1, s2, s3⟩
      go_simp
      with_reducible rfl
     rotate_left
     ·simp only [Act.put, List.setIfInBounds_toArray, List.set_cons_zero, List.set_cons_succ, i64_w, i32_w]
      rfl
     refine pure_ (i := 13) (N := some 48) (v := ?_) (a' := ?_) #[true, true, true, true, true, true, true, true, true, true, true, true, true, true, false, true, false, false, false] rfl rfl (by kernel_rfl) (fun _ _ _ h => h) (Or.inl ⟨by rfl, ?_⟩) ?_ ?_
     rotate_left
     ·intro w'
      go_simp
      with_reducible rfl
     rotate_left
     ·simp only [Act.put, List.setIfInBounds_toArray, List.set_cons_zero, List.set_cons_succ, i64_w, i32_w]
      rfl
     refine take_ (i := 14) (N := some 49) (v := ?_) (a' := ?_) #[true, true, true, true, true, true, true, true, true, true, true, true, true, true, true, true, false, false, false] rfl rfl (by kernel_rfl) (fun _ _ _ h => h) (Or.inl ⟨by rfl, ?_⟩) hHeld ?_ ?_
     rotate_left
     ·rintro w' ⟨s0, s1, s2, s3⟩
      go_simp
      with_reducible rfl
     rotate_left
     ·simp only [Act.put, List.setIfInBounds_toArray, List.set_cons_zero, List.set_cons_succ, i64_w, i32_w]
      rfl
     refine pure_ (i := 16) (N := some 51) (v := ?_) (a' := ?_) #[true, true, true, true, true, true, true, true, true, true, true, true, true, true, true, true, true, false, false] rfl rfl (by kernel_rfl) (fun _ _ _ h => h) (Or.inl ⟨by rfl, ?_⟩) ?_ ?_
     rotate_left
     ·intro w'
      go_simp
      with_reducible rfl
     rotate_left
     ·simp only [Act.put, List.setIfInBounds_toArray, List.set_cons_zero, List.set_cons_succ, i64_w, i32_w]
      rfl
     refine pure_ (i := 17) (N := some 52) (v := ?_) (a' := ?_) #[true, true, true, true, true, true, true, true, true, true, true, true, true, true, true, true, true, true, false] rfl rfl (by kernel_rfl) (fun _ _ _ h => h) (Or.inl ⟨by rfl, ?_⟩) ?_ ?_
     rotate_left
     ·intro w'
      go_simp
      with_reducible rfl
     rotate_left
     ·simp only [Act.put, List.setIfInBounds_toArray, List.set_cons_zero, List.set_cons_succ, i64_w, i32_w]
      rfl
     refine last_ (i := 18) (N := some 53) #[true, true, true, true, true, true, true, true, true, true, true, true, true, true, true, true, true, true, true] rfl rfl (by kernel_rfl) (by decide) (fun K hK => ?_)
     refine goes_ Try.func60 (by kernel_rfl) rfl #[.pointer (some ⟨L.g, 0, none⟩), .int .i64 q, .string y] (by rfl) rfl rfl (by simp only [List.map_toArray, List.map_cons, List.map_nil]; rfl) ?_
     with_reducible refine (HCH.out).mono ?_
     rintro e w3 ⟨rfl, hch⟩
     refine ⟨_, rfl, ?_⟩
     have HCH3 := Aside0.mk hch
     clear hch HCH
     refine hK.out _ _ ?_
     clear hK K
     refine norm_ (a' := ?_) ?_ ?_
     rotate_left
     ·show Act.put _ (some 53) _ = _
      simp only [Act.put, List.setIfInBounds_toArray, List.set_cons_zero, List.set_cons_succ, i64_w, i32_w]
      rfl
     refine done_ (by kernel_rfl) ?_
     go_wp2_with fail
     go_roundg (S.pend.length - (j + 1))
     case measure => omega
     case rel =>
      obtain ⟨vs3, F3, g1, g2, g3, g4⟩ := HCH3.out
      exact ⟨j + 1, i + 1, vs3, F3, changeS q y S', by go_num, by go_num, by omega, Nat.le_refl _, by omega, ⟨g1⟩, ⟨HFC.out⟩, ⟨HEC.out⟩, ⟨fun k z => (g2 k z).elim (fun z => HFF.out k z) (fun z => Or.inr (by have := HKR.out.1; have := HF1.out.size; simp at z; omega))⟩, ⟨(HKR.out.below HF1.out).then_ g3 (fun _ z => Or.inl z)⟩, ⟨(HBR.out.trans (HF1.out.drew.mono hB)).trans g4⟩⟩
  ·obtain rfl : j = S.pend.length := by omega
   have c2r := HPR.out.c2
   have hB : B ≤ wr.heap.size := by have := HPR.out.hr _ HPR.out.hF.1; omega
   have hpe : S'.pend = S.pend := HSA.out.pend
   have hdel := delfun_calls wr B f caps p (fun k => some k = (Value.slice A2 S.pend.length cc).ownBlock ∧ F' k) (.slice A2 S.pend.length cc) S'.pend ((HM.out.kept HKM.out).mono (fun k hk => Or.inl (Or.inr (Or.inr (Or.inr (Or.inr hk.1)))))) (by rw [hpe]; omega) (Kd.R_tight2 rfl HPR.out.hp) hB
   rw [hpe] at hdel
   have HDEL := Aside0.mk hdel
   have fg := HPR.out.fg 2
   clear hdel hpe
   go_wp2_with fail
   refine HDEL.out.mono ?_
   rintro e W3 ⟨pv', rfl, hR3, ho3, hk3, hb3⟩
   have hg3 : W3.heap[L.g]? = some (.cells (gcells L (.slice A2 S.pend.length cc) uv S') 81 (0, 0)) := blk_kept HPR.out.hg hk3 (fun e => by
    obtain ⟨inner, ho⟩ := Kd.R_own HPR.out.hp
    obtain ⟨cells, hc⟩ := own_typed ho _ e.symm
    rw [HPR.out.hg] at hc
    cases hc)
   have fg3 : W3.frozen? ⟨L.g, 2, none⟩ = false := blk_frozen hg3 2
   have c23 : W3.cell? ⟨L.g, 2, none⟩ = some (.slice A2 S.pend.length cc) := by rw [blk_cell hg3]; rfl
   obtain ⟨A3, c3, hv3, _, _⟩ := Kd.R_reads hR3
   have HR3 := Aside0.mk hR3
   have HO3 := Aside0.mk ho3
   have HK3 := Aside0.mk hk3
   have HB3 := Aside0.mk hb3
   clear hR3 ho3 hk3 hb3 hg3 HDEL
   subst hv3
   go_wp2_with fail
   go_end0
   refine ⟨rfl, F', ⟨vs', .slice A3 (List.filter (fun a => !p a) S.pend).length c3, uv, m, ?_⟩, HFF.out, ?_, ?_⟩
   ·have h1 := HPR.out.setPend (F' := F') HK3.out (Kd.R_mono HR3.out (fun k hk => hk.2)) (fun k z => z) (fun k z => Or.inl z) (Or.inl HO3.out)
    have h2 := HE.out
    rw [List.take_length] at h2
    unfold finishS
    rw [h2]
    exact h1
   ·exact ((HKR.out.mono (fun k z => HP.out.own k (z.elim (fun z => Or.inr (Or.inl z)) (fun z => Or.inr (Or.inr (Or.inl z)))))).then_ HK3.out (fun k z => Or.inl (HP.out.own k (Or.inr (Or.inr (Or.inr (Or.inr z))))))).setCell (Or.inl HP.out.hF.1) _
   ·exact (HBR.out.trans HB3.out).setCell (HP.out.hr _ HP.out.hF.1).1 _
end Go.Proofs.Ytflajmgichdhhaa.PG
namespace Go.Proofs.Ytflajmgichdhhaa.PG
open Go.RowKit Go.Proofs.YtflajmgichdhhaaW.PrintWords Go.Proofs.YtflajmgichdhhaaW.PrintLast Go.Proofs.YtflajmgichdhhaaW.PrintMore
set_option linter.unusedVariables false
set_option linter.unusedSimpArgs false
def fencedS (S : DevS) (sys ep : Int) : Bool := match S.fences sys with | some f => decide (ep ≤ f) | none => false
def blown (S : DevS) : DevS := { S with failed := true, fset := false, left := 0, surv := [] }
def admitS (S : DevS) (sys ep : Int) : Int × DevS :=
  if S.failed = true then (10, S) else if fencedS S sys ep = true then (13, S) else if S.fset = false then (0, S) else if 0 < S.left then (0, { S with left := S.left - 1 }) else (10, finishS isAny S.surv (blown S))
theorem DevAt.setG {W W' : World} {B : Nat} {L : Lay} {vs : List Value} {pv uv : Value} {m : Ents} {F : Nat → Prop} {S : DevS} (h : DevAt W B L vs pv uv m F S) (uv' : Value) (S' : DevS) (e1 : S'.stable = S.stable) (e2 : S'.old = S.old) (e3 : S'.pend = S.pend) (e4 : S'.fences = S.fences)
    (hg : W'.heap[L.g]? = some (.cells (gcells L pv uv' S') 81 (0, 0))) (hk : ∀ k, k ≠ L.g → k < W.heap.size → W'.heap[k]? = W.heap[k]?) (hs : W.heap.size ≤ W'.heap.size) (hu : Kd.V (Kd.int .i64) 3 W' 0 (Fr L pv F) uv' S'.surv) : DevAt W' B L vs pv uv' m F S' := by
  have hgo : L.g ≠ L.ob := blk_ne h.hg h.ho (by decide)
  have hgs : L.g ≠ L.sb := blk_ne h.hg h.hs (by decide)
  have hgm : L.g ≠ L.bm := h.hm.ne h.hg
  exact
    { hg := hg
      hs := by rw [e1]; exact (hk _ (fun e => hgs e.symm) (blk_lt h.hs)).trans h.hs
      ho := (hk _ (fun e => hgo e.symm) (blk_lt h.ho)).trans h.ho
      hvl := by rw [e2]; exact h.hvl
      hv := fun i v x h1 h2 => by
        rw [e2] at h2
        exact Kd.V_step (h.hv i v x h1 h2) (fun k hk' hlt => hk k (fun e => hk'.2 (Or.inl e)) hlt)
      hp := by
        rw [e3]
        exact Kd.R_mono (Kd.R_step (Kd.R_types h.hp h.hg (by decide)) (fun k hk' hlt => hk k hk'.2 hlt)) (fun k hk' => hk'.1)
      hm := h.hm.move (hk _ (fun e => hgm e.symm) h.hm.lt)
      hl := by rw [e4]; exact h.hl
      hu := hu
      hF := h.hF
      hr := fun k hk => by have := h.hr k hk; exact ⟨this.1, by omega⟩ }
theorem DevAt.blow {W : World} {B : Nat} {L : Lay} {vs : List Value} {pv uv : Value} {m : Ents} {F : Nat → Prop} {S : DevS} (h : DevAt W B L vs pv uv m F S) (b : Bool) :
  DevAt ((((W.setCell ⟨L.g, 7, none⟩ (.bool b)).setCell ⟨L.g, 4, none⟩ (.bool false)).setCell ⟨L.g, 5, none⟩ (.int .i64 0)).setCell ⟨L.g, 6, none⟩ (.slice none 0 0)) B L vs pv (.slice none 0 0) m F { S with failed := b, fset := false, left := 0, surv := [] } := by
 refine h.setG _ _ rfl rfl rfl rfl ?_ (fun k hk _ => ?_) (by simp [World.setCell]) (Kd.V_nil _ _ _ _ _)
 ·exact blk_put (blk_put (blk_put (blk_put h.hg 7 _ rfl) 4 _ rfl) 5 _ rfl) 6 _ (by rfl)
 ·exact (Below.heap_setCell _ _ _ _ hk).trans ((Below.heap_setCell _ _ _ _ hk).trans ((Below.heap_setCell _ _ _ _ hk).trans (Below.heap_setCell _ _ _ _ hk)))
theorem Fine.blown {k : Nat} {S : DevS} (h : Fine k S) : Fine k (blown S) := { h with l0 := ⟨Int.le_refl _, (by decide : (0 : Int) ≤ 9223372036854775807)⟩ }
theorem zero3 (w : World) : (zeroValue 3).run Try.prog w = .ok (.int .i64 0) w := by kernel_rfl
set_option maxHeartbeats 4000000 in
set_option maxRecDepth 100000 in
theorem admit_calls {W : World} {B : Nat} {L : Lay} {F : Nat → Prop} {S : DevS} {k : Nat} (hI : DevIs W B L F S) (hf : Fine k S) (hk : k ≤ 1000000) (hsl : S.surv.length ≤ 4611686018427387904) (sys ep : Int) :
  Calls Try.prog 50 #[.pointer (some ⟨L.g, 0, none⟩), .agg #[.int .i64 sys, .int .i64 ep]] W fun e W' => e = .returned (.int .i64 (admitS S sys ep).1) ∧ DevPost B L F (admitS S sys ep).2 W W' := by
 obtain ⟨vs, pv, uv, m, hP⟩ := hI
 have hb1 := below_alloc (Below.refl W.heap.size W) (.cells #[.int .i64 sys, .int .i64 ep] 35)
 have hP1 := hP.below hb1
 have lg := hP.lg
 have c7 := hP.c7
 have hB : B ≤ W.heap.size := by have := hP.hr _ hP.hF.1; omega
 have HI := Aside0.mk (show DevIs W B L F S from ⟨vs, pv, uv, m, hP⟩)
 have HB1 := Aside0.mk hb1
 have HP1 := Aside0.mk hP1
 have HF := Aside0.mk hf
 unfold admitS
 cases hfa : S.failed with
 | true =>
  rw [if_pos rfl]
  rw [hfa] at c7
  clear hP hP1 hf hb1 hfa
  go_enter Try.func50, Try.ntmps50
  go_wp2_with fail
  go_ret
  exact ⟨rfl, DevPost.same HI.out HB1.out⟩
 | false =>
  rw [if_neg (by simp)]
  rw [hfa] at c7
  have c3 := hP.c3
  have hlook : ∀ n, (Instr.lookup 77 (.map (some L.bm)) (.int .i64 sys) true).run Try.prog ((W.alloc (.cells #[.int .i64 sys, .int .i64 ep] 35)).drewN n) = .ok (.tuple #[.int .i64 ((S.fences sys).getD 0), .bool (S.fences sys).isSome]) ((W.alloc (.cells #[.int .i64 sys, .int .i64 ep] 35)).drewN n) := fun n => by
   have h := (show MapIs ((W.alloc (.cells #[.int .i64 sys, .int .i64 ep] 35)).drewN n) L.bm m from hP1.hm).run_look Try.underlying77 zero3 sys true
   rw [hP.hl] at h
   exact h
  have c4 := hP.c4
  have c5 := hP.c5
  have c6 := hP.c6
  have f5 := hP.fg 5
  have hl0 := hf.l0
  have fin : fencedS S sys ep = true ∨ fencedS S sys ep = false := by cases fencedS S sys ep <;> simp
  -- what comes behind the fences' test, whichever way it went
  cases hfe : S.fences sys with
  | some fv =>
   have hfd : fencedS S sys ep = decide (ep ≤ fv) := by unfold fencedS; rw [hfe]
   rw [hfe] at hlook
   rw [hfd]
   simp only [Option.getD_some, Option.isSome_some] at hlook
   by_cases hle : ep ≤ fv
   ·rw [if_pos (decide_eq_true hle)]
    have hd : decide (ep ≤ fv) = true := decide_eq_true hle
    clear hP hP1 hf hb1 hfa hfe hfd fin hle
    go_enter Try.func50, Try.ntmps50
    go_wp2_with fail
    go_quiet (fail)
    go_wp2_with fail
    go_ret
    exact ⟨rfl, (DevPost.same HI.out HB1.out).drewN _⟩
   ·rw [if_neg (by simpa using hle)]
    have hd : decide (ep ≤ fv) = false := decide_eq_false hle
    clear hle
    cases hfs : S.fset with
    | false =>
     rw [if_pos rfl]
     rw [hfs] at c4
     clear hP hP1 hf hb1 hfa hfe hfd fin hfs
     go_enter Try.func50, Try.ntmps50
     go_wp2_with fail
     go_quiet (fail)
     go_wp2_with fail
     go_ret
     exact ⟨rfl, (DevPost.same HI.out HB1.out).drewN _⟩
    | true =>
     rw [if_neg (by simp)]
     rw [hfs] at c4
     by_cases hlf : 0 < S.left
     ·rw [if_pos hlf]
      have hd2 : decide (0 < S.left) = true := decide_eq_true hlf
      have HL0 := Aside0.mk hl0
      have HFS := Aside0.mk hfs
      have HFA := Aside0.mk hfa
      have hl1 : S.left ≤ 9223372036854775807 := hl0.2
      clear hP hP1 hf hb1 hfa hfe hfd fin hfs hl0
      go_enter Try.func50, Try.ntmps50
      go_wp2_with fail
      go_quiet (fail)
      obtain ⟨Wq, hWq⟩ : ∃ Wq, Wq = (W.alloc (.cells #[.int .i64 sys, .int .i64 ep] 35)).drewN nq := ⟨_, rfl⟩
      have HQ := Aside0.mk (show Below W.heap.size W Wq by rw [hWq]; exact below_drewN HB1.out nq)
      have PQ := Aside0.mk (HP1.out.below (W' := Wq) (by rw [hWq]; exact below_drewN (Below.refl _ _) nq))
      have qw : Wq.cell? ⟨W.heap.size, 1, none⟩ = some (.int .i64 ep) := by rw [hWq, blk_cell (show ((W.alloc (.cells #[.int .i64 sys, .int .i64 ep] 35)).drewN nq).heap[W.heap.size]? = some (.cells #[.int .i64 sys, .int .i64 ep] 35 (0, 0)) from blk_new W _)]; rfl
      have q4 : Wq.cell? ⟨L.g, 4, none⟩ = some (.bool true) := by rw [hWq]; exact (HB1.out.cell (p := ⟨L.g, 4, none⟩) lg).trans c4
      have q5 : Wq.cell? ⟨L.g, 5, none⟩ = some (.int .i64 S.left) := PQ.out.c5
      have qf : Wq.frozen? ⟨L.g, 5, none⟩ = false := PQ.out.fg 5
      rw [← hWq]
      clear hWq c3 c4 c5 c6 c7 f5 hlook
      go_wp2_with fail
      go_ret
      refine ⟨rfl, F, ⟨vs, pv, uv, m, PQ.out.setG uv _ rfl rfl rfl rfl (blk_put PQ.out.hg 5 _ (by unfold gcells; rw [HFS.out, HFA.out]; rfl)) (fun k hk _ => Below.heap_setCell _ _ _ _ hk) (by simp [World.setCell]) (Kd.V_step PQ.out.hu (fun k hk _ => Below.heap_setCell _ _ _ _ (fun e => hk.2 (Or.inl e))))⟩, fun k z => Or.inl z, (Kept.of_below HQ.out F).setCell (Or.inl PQ.out.hF.1) _, (HQ.out.mono hB).setCell (PQ.out.hr _ PQ.out.hF.1).1 _⟩
     ·rw [if_neg hlf]
      have hd2 : decide (0 < S.left) = false := decide_eq_false hlf
      obtain ⟨A, c, hu1, hu2, hu3⟩ := hP.hu
      subst hu1
      clear hP hf hb1 hfa hfe hfd fin hfs hl0 hlf hP1 hu3
      go_enter Try.func50, Try.ntmps50
      go_wp2_with fail
      go_quiet (fail)
      obtain ⟨Wq, hWq⟩ : ∃ Wq, Wq = (W.alloc (.cells #[.int .i64 sys, .int .i64 ep] 35)).drewN nq := ⟨_, rfl⟩
      have HQ := Aside0.mk (show Below W.heap.size W Wq by rw [hWq]; exact below_drewN HB1.out nq)
      have PQ := Aside0.mk (HP1.out.below (W' := Wq) (by rw [hWq]; exact below_drewN (Below.refl _ _) nq))
      have qw : Wq.cell? ⟨W.heap.size, 1, none⟩ = some (.int .i64 ep) := by rw [hWq, blk_cell (show ((W.alloc (.cells #[.int .i64 sys, .int .i64 ep] 35)).drewN nq).heap[W.heap.size]? = some (.cells #[.int .i64 sys, .int .i64 ep] 35 (0, 0)) from blk_new W _)]; rfl
      have q4 : Wq.cell? ⟨L.g, 4, none⟩ = some (.bool true) := by rw [hWq]; exact (HB1.out.cell (p := ⟨L.g, 4, none⟩) lg).trans c4
      have q5 : Wq.cell? ⟨L.g, 5, none⟩ = some (.int .i64 S.left) := PQ.out.c5
      have q6 : Wq.cell? ⟨L.g, 6, none⟩ = some (.slice A S.surv.length c) := PQ.out.c6
      have q7 : Wq.cell? ⟨L.g, 7, none⟩ = some (.bool false) := by rw [hWq]; exact (HB1.out.cell (p := ⟨L.g, 7, none⟩) lg).trans c7
      have qf4 : Wq.frozen? ⟨L.g, 4, none⟩ = false := PQ.out.fg 4
      have qf5 : Wq.frozen? ⟨L.g, 5, none⟩ = false := PQ.out.fg 5
      have qf6 : Wq.frozen? ⟨L.g, 6, none⟩ = false := PQ.out.fg 6
      have qf7 : Wq.frozen? ⟨L.g, 7, none⟩ = false := PQ.out.fg 7
      rw [← hWq]
      have hbl := PQ.out.blow true
      have hfin := finish_calls hbl HF.out.blown hk 59 #[] isAny (matchAny _ _) A c S.surv
       (Kd.F_step (Kd.F_mono (Kd.V_F PQ.out.hu) (fun k hk => hk.2)) (fun k hk _ => (Below.heap_setCell _ _ _ _ (fun e => hk (Or.inl e))).trans ((Below.heap_setCell _ _ _ _ (fun e => hk (Or.inl e))).trans ((Below.heap_setCell _ _ _ _ (fun e => hk (Or.inl e))).trans (Below.heap_setCell _ _ _ _ (fun e => hk (Or.inl e))))))) hu2 hsl
      have HFIN := Aside0.mk hfin
      have hkb : Kept W ((((Wq.setCell ⟨L.g, 7, none⟩ (.bool true)).setCell ⟨L.g, 4, none⟩ (.bool false)).setCell ⟨L.g, 5, none⟩ (.int .i64 0)).setCell ⟨L.g, 6, none⟩ (.slice none 0 0)) F := ((((Kept.of_below HQ.out F).setCell (p := ⟨L.g, 7, none⟩) (Or.inl PQ.out.hF.1) _).setCell (p := ⟨L.g, 4, none⟩) (Or.inl PQ.out.hF.1) _).setCell (p := ⟨L.g, 5, none⟩) (Or.inl PQ.out.hF.1) _).setCell (p := ⟨L.g, 6, none⟩) (Or.inl PQ.out.hF.1) _
      have hbb : Below B W ((((Wq.setCell ⟨L.g, 7, none⟩ (.bool true)).setCell ⟨L.g, 4, none⟩ (.bool false)).setCell ⟨L.g, 5, none⟩ (.int .i64 0)).setCell ⟨L.g, 6, none⟩ (.slice none 0 0)) := ((((HQ.out.mono hB).setCell (p := ⟨L.g, 7, none⟩) (PQ.out.hr _ PQ.out.hF.1).1 _).setCell (p := ⟨L.g, 4, none⟩) (PQ.out.hr _ PQ.out.hF.1).1 _).setCell (p := ⟨L.g, 5, none⟩) (PQ.out.hr _ PQ.out.hF.1).1 _).setCell (p := ⟨L.g, 6, none⟩) (PQ.out.hr _ PQ.out.hF.1).1 _
      have HKB := Aside0.mk hkb
      have HBB := Aside0.mk hbb
      clear hWq c3 c4 c5 c6 c7 f5 hlook hbl hfin hkb hbb
      go_wp2_with fail
      refine HFIN.out.mono ?_
      rintro e W3 ⟨rfl, F3, g1, g2, g3, g4⟩
      have HPO := Aside0.mk (show DevPost B L F (finishS isAny S.surv (blown S)) W W3 from ⟨F3, g1, fun k z => (g2 k z).imp id (fun (z : _ ≤ k) => by have := HKB.out.1; omega), HKB.out.then_ g3 (fun k z => Or.inl z), HBB.out.trans g4⟩)
      clear g1 g2 g3 g4 HFIN HKB HBB q4 q5 q6 q7 qf4 qf5 qf6 qf7
      go_wp2_with fail
      go_ret
      exact ⟨rfl, HPO.out⟩
  | none =>
   have hfd : fencedS S sys ep = false := by unfold fencedS; rw [hfe]
   rw [hfe] at hlook
   rw [hfd, if_neg (by simp)]
   simp only [Option.getD_none, Option.isSome_none] at hlook
   cases hfs : S.fset with
   | false =>
    rw [if_pos rfl]
    rw [hfs] at c4
    clear hP hP1 hf hb1 hfa hfe hfd fin hfs
    go_enter Try.func50, Try.ntmps50
    go_wp2_with fail
    go_quiet (fail)
    go_wp2_with fail
    go_ret
    exact ⟨rfl, (DevPost.same HI.out HB1.out).drewN _⟩
   | true =>
    rw [if_neg (by simp)]
    rw [hfs] at c4
    by_cases hlf : 0 < S.left
    ·rw [if_pos hlf]
     have hd2 : decide (0 < S.left) = true := decide_eq_true hlf
     have HL0 := Aside0.mk hl0
     have HFS := Aside0.mk hfs
     have HFA := Aside0.mk hfa
     have hl1 : S.left ≤ 9223372036854775807 := hl0.2
     clear hP hP1 hf hb1 hfa hfe hfd fin hfs hl0
     go_enter Try.func50, Try.ntmps50
     go_wp2_with fail
     go_quiet (fail)
     obtain ⟨Wq, hWq⟩ : ∃ Wq, Wq = (W.alloc (.cells #[.int .i64 sys, .int .i64 ep] 35)).drewN nq := ⟨_, rfl⟩
     have HQ := Aside0.mk (show Below W.heap.size W Wq by rw [hWq]; exact below_drewN HB1.out nq)
     have PQ := Aside0.mk (HP1.out.below (W' := Wq) (by rw [hWq]; exact below_drewN (Below.refl _ _) nq))
     have qw : Wq.cell? ⟨W.heap.size, 1, none⟩ = some (.int .i64 ep) := by rw [hWq, blk_cell (show ((W.alloc (.cells #[.int .i64 sys, .int .i64 ep] 35)).drewN nq).heap[W.heap.size]? = some (.cells #[.int .i64 sys, .int .i64 ep] 35 (0, 0)) from blk_new W _)]; rfl
     have q4 : Wq.cell? ⟨L.g, 4, none⟩ = some (.bool true) := by rw [hWq]; exact (HB1.out.cell (p := ⟨L.g, 4, none⟩) lg).trans c4
     have q5 : Wq.cell? ⟨L.g, 5, none⟩ = some (.int .i64 S.left) := PQ.out.c5
     have qf : Wq.frozen? ⟨L.g, 5, none⟩ = false := PQ.out.fg 5
     rw [← hWq]
     clear hWq c3 c4 c5 c6 c7 f5 hlook
     go_wp2_with fail
     go_ret
     refine ⟨rfl, F, ⟨vs, pv, uv, m, PQ.out.setG uv _ rfl rfl rfl rfl (blk_put PQ.out.hg 5 _ (by unfold gcells; rw [HFS.out, HFA.out]; rfl)) (fun k hk _ => Below.heap_setCell _ _ _ _ hk) (by simp [World.setCell]) (Kd.V_step PQ.out.hu (fun k hk _ => Below.heap_setCell _ _ _ _ (fun e => hk.2 (Or.inl e))))⟩, fun k z => Or.inl z, (Kept.of_below HQ.out F).setCell (Or.inl PQ.out.hF.1) _, (HQ.out.mono hB).setCell (PQ.out.hr _ PQ.out.hF.1).1 _⟩
    ·rw [if_neg hlf]
     have hd2 : decide (0 < S.left) = false := decide_eq_false hlf
     obtain ⟨A, c, hu1, hu2, hu3⟩ := hP.hu
     subst hu1
     clear hP hf hb1 hfa hfe hfd fin hfs hl0 hlf hP1 hu3
     go_enter Try.func50, Try.ntmps50
     go_wp2_with fail
     go_quiet (fail)
     obtain ⟨Wq, hWq⟩ : ∃ Wq, Wq = (W.alloc (.cells #[.int .i64 sys, .int .i64 ep] 35)).drewN nq := ⟨_, rfl⟩
     have HQ := Aside0.mk (show Below W.heap.size W Wq by rw [hWq]; exact below_drewN HB1.out nq)
     have PQ := Aside0.mk (HP1.out.below (W' := Wq) (by rw [hWq]; exact below_drewN (Below.refl _ _) nq))
     have qw : Wq.cell? ⟨W.heap.size, 1, none⟩ = some (.int .i64 ep) := by rw [hWq, blk_cell (show ((W.alloc (.cells #[.int .i64 sys, .int .i64 ep] 35)).drewN nq).heap[W.heap.size]? = some (.cells #[.int .i64 sys, .int .i64 ep] 35 (0, 0)) from blk_new W _)]; rfl
     have q4 : Wq.cell? ⟨L.g, 4, none⟩ = some (.bool true) := by rw [hWq]; exact (HB1.out.cell (p := ⟨L.g, 4, none⟩) lg).trans c4
     have q5 : Wq.cell? ⟨L.g, 5, none⟩ = some (.int .i64 S.left) := PQ.out.c5
     have q6 : Wq.cell? ⟨L.g, 6, none⟩ = some (.slice A S.surv.length c) := PQ.out.c6
     have q7 : Wq.cell? ⟨L.g, 7, none⟩ = some (.bool false) := by rw [hWq]; exact (HB1.out.cell (p := ⟨L.g, 7, none⟩) lg).trans c7
     have qf4 : Wq.frozen? ⟨L.g, 4, none⟩ = false := PQ.out.fg 4
     have qf5 : Wq.frozen? ⟨L.g, 5, none⟩ = false := PQ.out.fg 5
     have qf6 : Wq.frozen? ⟨L.g, 6, none⟩ = false := PQ.out.fg 6
     have qf7 : Wq.frozen? ⟨L.g, 7, none⟩ = false := PQ.out.fg 7
     rw [← hWq]
     have hbl := PQ.out.blow true
     have hfin := finish_calls hbl HF.out.blown hk 59 #[] isAny (matchAny _ _) A c S.surv
      (Kd.F_step (Kd.F_mono (Kd.V_F PQ.out.hu) (fun k hk => hk.2)) (fun k hk _ => (Below.heap_setCell _ _ _ _ (fun e => hk (Or.inl e))).trans ((Below.heap_setCell _ _ _ _ (fun e => hk (Or.inl e))).trans ((Below.heap_setCell _ _ _ _ (fun e => hk (Or.inl e))).trans (Below.heap_setCell _ _ _ _ (fun e => hk (Or.inl e))))))) hu2 hsl
     have HFIN := Aside0.mk hfin
     have hkb : Kept W ((((Wq.setCell ⟨L.g, 7, none⟩ (.bool true)).setCell ⟨L.g, 4, none⟩ (.bool false)).setCell ⟨L.g, 5, none⟩ (.int .i64 0)).setCell ⟨L.g, 6, none⟩ (.slice none 0 0)) F := ((((Kept.of_below HQ.out F).setCell (p := ⟨L.g, 7, none⟩) (Or.inl PQ.out.hF.1) _).setCell (p := ⟨L.g, 4, none⟩) (Or.inl PQ.out.hF.1) _).setCell (p := ⟨L.g, 5, none⟩) (Or.inl PQ.out.hF.1) _).setCell (p := ⟨L.g, 6, none⟩) (Or.inl PQ.out.hF.1) _
     have hbb : Below B W ((((Wq.setCell ⟨L.g, 7, none⟩ (.bool true)).setCell ⟨L.g, 4, none⟩ (.bool false)).setCell ⟨L.g, 5, none⟩ (.int .i64 0)).setCell ⟨L.g, 6, none⟩ (.slice none 0 0)) := ((((HQ.out.mono hB).setCell (p := ⟨L.g, 7, none⟩) (PQ.out.hr _ PQ.out.hF.1).1 _).setCell (p := ⟨L.g, 4, none⟩) (PQ.out.hr _ PQ.out.hF.1).1 _).setCell (p := ⟨L.g, 5, none⟩) (PQ.out.hr _ PQ.out.hF.1).1 _).setCell (p := ⟨L.g, 6, none⟩) (PQ.out.hr _ PQ.out.hF.1).1 _
     have HKB := Aside0.mk hkb
     have HBB := Aside0.mk hbb
     clear hWq c3 c4 c5 c6 c7 f5 hlook hbl hfin hkb hbb
     go_wp2_with fail
     refine HFIN.out.mono ?_
     rintro e W3 ⟨rfl, F3, g1, g2, g3, g4⟩
     have HPO := Aside0.mk (show DevPost B L F (finishS isAny S.surv (blown S)) W W3 from ⟨F3, g1, fun k z => (g2 k z).imp id (fun (z : _ ≤ k) => by have := HKB.out.1; omega), HKB.out.then_ g3 (fun k z => Or.inl z), HBB.out.trans g4⟩)
     clear g1 g2 g3 g4 HFIN HKB HBB q4 q5 q6 q7 qf4 qf5 qf6 qf7
     go_wp2_with fail
     go_ret
     exact ⟨rfl, HPO.out⟩
end Go.Proofs.Ytflajmgichdhhaa.PG
namespace Go.Proofs.Ytflajmgichdhhaa.PG
open Go.RowKit Go.Proofs.YtflajmgichdhhaaW.PrintWords Go.Proofs.YtflajmgichdhhaaW.PrintLast Go.Proofs.YtflajmgichdhhaaW.PrintMore
set_option linter.unusedVariables false
set_option linter.unusedSimpArgs false
def plainB (sys ep : Int) : Bool := decide (1 ≤ sys ∧ sys ≤ 4 ∧ 0 ≤ ep ∧ ep ≤ 1099511627776)
theorem plain_f (sys ep : Int) : device_plain.f sys ep = some (plainB sys ep) := by
 unfold device_plain.f plainB
 by_cases h1 : sys ≥ 1
 ·rw [if_pos h1]
  by_cases h2 : sys ≤ 4
  ·rw [if_pos h2]
   by_cases h3 : ep ≥ 0
   ·rw [if_pos h3]
    congr 1
    by_cases h4 : ep ≤ 1099511627776
    ·rw [decide_eq_true h4, decide_eq_true ⟨h1, h2, h3, h4⟩]
    ·rw [decide_eq_false h4, decide_eq_false (fun z => h4 z.2.2.2)]
   ·rw [if_neg h3, decide_eq_false (fun z => h3 z.2.2.1)]
  ·rw [if_neg h2, decide_eq_false (fun z => h2 z.2.1)]
 ·rw [if_neg h1, decide_eq_false (fun z => h1 z.1)]
theorem plain_calls (W : World) (sys ep : Int) : Calls Try.prog 48 #[.agg #[.int .i64 sys, .int .i64 ep]] W fun e W' => e = .returned (.bool (plainB sys ep)) ∧ Below W.heap.size W W' :=
 device_plain.calls sys ep _ W (plain_f sys ep)
def pushS (S : DevS) (w : S99) : DevS := { S with pend := S.pend ++ [w] }
def writeS (S : DevS) (sys ep sec : Int) (d : ByteArray) : Int × DevS :=
  if plainB sys ep = true ∧ d.size = 140 then (if 0 ≤ sec ∧ sec < (S.stable.length : Int) then (if (admitS S sys ep).1 = 0 then (0, pushS (admitS S sys ep).2 ⟨sys, sec, d⟩) else admitS S sys ep) else (2, S)) else (1, S)
theorem info84 : (Try.prog.info? 84).map (fun i => (i.zero, i.size, i.bytes)) = some (some (.agg #[.int .i64 0, .int .i64 0, .string ⟨#[]⟩]), k99.sz, 32) := by kernel_rfl
theorem DevAt.push {W w1 : World} {B : Nat} {L : Lay} {vs : List Value} {pv uv v1 : Value} {m : Ents} {F : Nat → Prop} {S : DevS} {w : S99} (h : DevAt W B L vs pv uv m F S) (hg : W.grownBy w1 pv.ownBlock)
  (hR : Kd.R k99 84 w1 B (fun k => F k ∨ W.heap.size ≤ k) v1 (S.pend ++ [w])) (hat : v1.ownBlock = pv.ownBlock ∨ ∃ b, v1.ownBlock = some b ∧ W.heap.size ≤ b) (hb : Below B W w1) :
  DevPost B L F (pushS S w) W (w1.setCell ⟨L.g, 2, none⟩ v1) := by
 have hk : Kept W w1 (fun k => some k = pv.ownBlock) := Kept.of_grown hg (Kept.refl _ _) (fun k hk => Or.inl hk.symm)
 have hs := hk.1
 refine ⟨fun k => F k ∨ (W.heap.size ≤ k ∧ k < w1.heap.size), ⟨vs, v1, uv, m, ?_⟩, fun k hk => hk.imp id (fun z => z.1), ?_, ?_⟩
 ·refine h.setPend hk (Kd.R_mono (Kd.R_bound hR) (fun k hk => hk.1.imp id (fun z => ⟨z, hk.2.2.1⟩))) (fun k z => Or.inl z) (fun k z => z) (hat.imp id (fun ⟨b, h1, h2⟩ k hk => by rw [h1] at hk; cases hk; exact h2))
 ·exact (hk.mono (fun k hk => h.hp.1 k hk.symm)).setCell (Or.inl h.hF.1) _
 ·have hB : B ≤ W.heap.size := by have := h.hr _ h.hF.1; omega
  exact hb.setCell (h.hr _ h.hF.1).1 _
theorem admit_zero {S : DevS} {sys ep : Int} (h : (admitS S sys ep).1 = 0) : (admitS S sys ep).2.pend = S.pend ∧ (admitS S sys ep).2.stable = S.stable := by
 unfold admitS at h ⊢
 split
 ·exact ⟨rfl, rfl⟩
 ·split
  ·exact ⟨rfl, rfl⟩
  ·split
   ·exact ⟨rfl, rfl⟩
   ·split
    ·exact ⟨rfl, rfl⟩
    ·rename_i h1 h2 h3 h4
     rw [if_neg h1, if_neg h2, if_neg h3, if_neg h4] at h
     cases h
set_option maxHeartbeats 4000000 in
set_option maxRecDepth 100000 in
theorem write_calls {W : World} {B : Nat} {L : Lay} {F : Nat → Prop} {S : DevS} {k : Nat} (hI : DevIs W B L F S) (hf : Fine k S) (hk : k ≤ 1000000) (hsl : S.surv.length ≤ 4611686018427387904) (sys ep sec : Int) (d : ByteArray) :
  Calls Try.prog 20 #[.pointer (some ⟨L.g, 0, none⟩), .agg #[.int .i64 sys, .int .i64 ep], .int .i64 sec, .string d] W fun e W' => e = .returned (.int .i64 (writeS S sys ep sec d).1) ∧ DevPost B L F (writeS S sys ep sec d).2 W W' := by
 have hB := hI.hB
 have hb1 := below_alloc (Below.refl W.heap.size W) (.cells #[.int .i64 sys, .int .i64 ep] 35)
 have hx1 := blk_new W (.cells #[.int .i64 sys, .int .i64 ep] 35)
 have HI := Aside0.mk hI
 have HB1 := Aside0.mk hb1
 have HX1 := Aside0.mk hx1
 have HF := Aside0.mk hf
 have hplen := hf.plen
 unfold writeS
 clear hI hb1 hx1 hf
 cases hpl : plainB sys ep with
 | false =>
  rw [if_neg (by simp)]
  have HC := plain_calls (W.alloc (.cells #[.int .i64 sys, .int .i64 ep] 35)) sys ep
  rw [hpl] at HC
  have HC := Aside0.mk HC
  clear hpl
  go_enter Try.func20, Try.ntmps20
  go_wp2_with fail
  refine HC.out.mono ?_
  rintro e W2 ⟨rfl, hb2⟩
  have HB2 := Aside0.mk (HB1.out.trans (hb2.mono HB1.out.size))
  clear hb2 HC
  go_wp2_with fail
  go_ret
  exact ⟨rfl, DevPost.same HI.out HB2.out⟩
 | true =>
  have HC := plain_calls (W.alloc (.cells #[.int .i64 sys, .int .i64 ep] 35)) sys ep
  rw [hpl] at HC
  have HC := Aside0.mk HC
  clear hpl
  by_cases hd : d.size = 140
  ·rw [if_pos ⟨rfl, hd⟩]
   have hd1 : ((d.size : Int) == 140) = true := by rw [hd]; rfl
   have hd2 : ((d.size : Int) != 140) = false := by rw [hd]; rfl
   clear hd
   by_cases hin : 0 ≤ sec ∧ sec < (S.stable.length : Int)
   ·rw [if_pos hin]
    obtain ⟨e5, S5, hr⟩ : ∃ e5 S5, admitS S sys ep = (e5, S5) := ⟨_, _, rfl⟩
    have hadm : ∀ W2, DevIs W2 B L F S → Calls Try.prog 50 #[.pointer (some ⟨L.g, 0, none⟩), .agg #[.int .i64 sys, .int .i64 ep]] W2 fun e W' => e = .returned (.int .i64 e5) ∧ DevPost B L F S5 W2 W' := fun W2 h => by
     have := admit_calls h HF.out hk hsl sys ep
     rw [hr] at this
     exact this
    have hz := @admit_zero S sys ep
    rw [hr] at hz ⊢
    have HZ := Aside0.mk hz
    have HADM := Aside0.mk hadm
    clear hr hz hadm
    by_cases he : e5 = 0
    ·subst he
     rw [if_pos rfl]
     go_enter Try.func20, Try.ntmps20
     go_wp2_with fail
     refine HC.out.mono ?_
     rintro e W2 ⟨rfl, hb2⟩
     have HB2 := Aside0.mk (HB1.out.trans (hb2.mono HB1.out.size))
     have HX2 := Aside0.mk (blk_below HX1.out hb2)
     have HI2 := Aside0.mk (HI.out.below HB2.out)
     have lW : W.heap.size < W2.heap.size := blk_lt HX2.out
     have x0 : W2.cell? ⟨W.heap.size, 0, none⟩ = some (.int .i64 sys) := by rw [blk_cell HX2.out]; rfl
     have x1 : W2.cell? ⟨W.heap.size, 1, none⟩ = some (.int .i64 ep) := by rw [blk_cell HX2.out]; rfl
     have HT : Aside0 (Calls Try.prog 49 #[.pointer (some ⟨L.g, 0, none⟩), .int .i64 sec] W2 fun e W' => e = .returned (.bool true) ∧ W2 = W') := by
      obtain ⟨vs, pv, uv, m, hP⟩ := HI2.out
      exact ⟨there_yes hP sec hin.1 hin.2⟩
     have HIN := Aside0.mk hin
     clear hb2 HC hin
     go_wp2_with fail
     refine HT.out.mono ?_
     rintro e W3 ⟨rfl, rfl⟩
     clear HT
     go_wp2_with fail
     refine (HADM.out W2 HI2.out).mono ?_
     rintro e W5 ⟨rfl, F5, hI5, hF5, hk5, hb5⟩
     have HX5 := Aside0.mk (blk_kept HX2.out hk5 (fun z => by have := (HI.out.range _ z).2; omega))
     clear HADM
     obtain ⟨hz1, hz2⟩ := HZ.out (by simp)
     obtain ⟨vs, pv, uv, m, hP5⟩ := hI5
     have c2 := hP5.c2
     have y0 : W5.cell? ⟨W.heap.size, 0, none⟩ = some (.int .i64 sys) := by rw [blk_cell HX5.out]; rfl
     have f2 := hP5.fg 2
     have lg := hP5.lg
     obtain ⟨A, c, hpv, _, _⟩ := hP5.pslice
     have hplen5 : S5.pend.length ≤ k := by rw [hz1]; exact hplen
     have HP5 := Aside0.mk hP5
     have HKB := Aside0.mk (⟨(Kept.of_below HB2.out F).then_ hk5 (fun _ z => Or.inl z), (HB2.out.mono hB).trans hb5⟩ : Kept W W5 F ∧ Below B W W5)
     have hF5 : ∀ q, F5 q → F q ∨ W.heap.size ≤ q := fun q z => (hF5 q z).imp id (fun y => by have := HB2.out.size; omega)
     have hB5 : B ≤ W5.heap.size := by have := hP5.hr _ hP5.hF.1; omega
     have HF5 := Aside0.mk hF5
     subst hpv
     clear hz1 hz2 hP5 hF5 hk5 hb5 HZ
     go_wp2_with fail
     refine start_ (n := 15) (S := fun w' => w'.cell? ⟨L.g, 2, none⟩ = some (.slice A S5.pend.length c) ∧ w'.cell? ⟨W.heap.size, 0, none⟩ = some (.int .i64 sys)) (ds := [11, 14]) #[false, false, false, false, false, false, false, false, false, false, false, false, false, false, false] (by kernel_rfl) rfl rfl ⟨c2, y0⟩ (fun hHeld => ?_)
     refine pure_ (i := 0) (N := some 28) (v := ?_) (a' := ?_) #[true, false, false, false, false, false, false, false, false, false, false, false, false, false, false] rfl rfl (by kernel_rfl) (fun _ _ _ h => h) (Or.inl ⟨by rfl, ?_⟩) ?_ ?_
     rotate_left
     ·intro w'
      go_simp
      with_reducible rfl
     rotate_left
     ·simp only [Act.put, List.setIfInBounds_toArray, List.set_cons_zero, List.set_cons_succ, i64_w, i32_w]
      rfl
     refine pure_ (i := 1) (N := some 29) (v := ?_) (a' := ?_) #[true, true, false, false, false, false, false, false, false, false, false, false, false, false, false] rfl rfl (by kernel_rfl) (fun _ _ _ h => h) (Or.inl ⟨by rfl, ?_⟩) ?_ ?_
     rotate_left
     ·intro w'
      go_simp
      with_reducible rfl
     rotate_left
     ·simp only [Act.put, List.setIfInBounds_toArray, List.set_cons_zero, List.set_cons_succ, i64_w, i32_w]
      rfl
     refine pure_ (i := 2) (N := some 30) (v := ?_) (a' := ?_) #[true, true, true, false, false, false, false, false, false, false, false, false, false, false, false] rfl rfl (by kernel_rfl) (fun _ _ _ h => h) (Or.inl ⟨by rfl, ?_⟩) ?_ ?_
     rotate_left
     ·intro w'
      go_simp
      with_reducible rfl
     rotate_left
     ·simp only [Act.put, List.setIfInBounds_toArray, List.set_cons_zero, List.set_cons_succ, i64_w, i32_w]
      rfl
     refine pure_ (i := 3) (N := some 31) (v := ?_) (a' := ?_) #[true, true, true, true, false, false, false, false, false, false, false, false, false, false, false] rfl rfl (by kernel_rfl) (fun _ _ _ h => h) (Or.inl ⟨by rfl, ?_⟩) ?_ ?_
     rotate_left
     ·intro w'
      go_simp
      with_reducible rfl
     rotate_left
     ·simp only [Act.put, List.setIfInBounds_toArray, List.set_cons_zero, List.set_cons_succ, i64_w, i32_w]
      rfl
     refine pure_ (i := 5) (N := some 33) (v := ?_) (a' := ?_) #[true, true, true, true, false, true, false, false, false, false, false, false, false, false, false] rfl rfl (by kernel_rfl) (fun _ _ _ h => h) (Or.inl ⟨by rfl, ?_⟩) ?_ ?_
     rotate_left
     ·intro w'
      go_simp
      with_reducible rfl
     rotate_left
     ·simp only [Act.put, List.setIfInBounds_toArray, List.set_cons_zero, List.set_cons_succ, i64_w, i32_w]
      rfl
     refine pure_ (i := 7) (N := some 35) (v := ?_) (a' := ?_) #[true, true, true, true, false, true, false, true, false, false, false, false, false, false, false] rfl rfl (by kernel_rfl) (fun _ _ _ h => h) (Or.inl ⟨by rfl, ?_⟩) ?_ ?_
     rotate_left
     ·intro w'
      go_simp
      with_reducible rfl
     rotate_left
     ·simp only [Act.put, List.setIfInBounds_toArray, List.set_cons_zero, List.set_cons_succ, i64_w, i32_w]
      rfl
     refine pure_ (i := 8) (N := some 36) (v := ?_) (a' := ?_) #[true, true, true, true, false, true, false, true, true, false, false, false, false, false, false] rfl rfl (by kernel_rfl) (fun _ _ _ h => h) (Or.inl ⟨by rfl, ?_⟩) ?_ ?_
     rotate_left
     ·intro w'
      go_simp
      with_reducible rfl
     rotate_left
     ·simp only [Act.put, List.setIfInBounds_toArray, List.set_cons_zero, List.set_cons_succ, i64_w, i32_w]
      rfl
     refine take_ (i := 4) (N := some 32) (v := ?_) (a' := ?_) #[true, true, true, true, true, true, false, true, true, false, false, false, false, false, false] rfl rfl (by kernel_rfl) (fun _ _ _ h => h) (Or.inl ⟨by rfl, ?_⟩) hHeld ?_ ?_
     rotate_left
     ·rintro w' ⟨s0, s1⟩
      go_simp
      with_reducible rfl
     rotate_left
     ·simp only [Act.put, List.setIfInBounds_toArray, List.set_cons_zero, List.set_cons_succ, i64_w, i32_w]
      rfl
     refine take_ (i := 6) (N := some 34) (v := ?_) (a' := ?_) #[true, true, true, true, true, true, true, true, true, false, false, false, false, false, false] rfl rfl (by kernel_rfl) (fun _ _ _ h => h) (Or.inl ⟨by rfl, ?_⟩) hHeld ?_ ?_
     rotate_left
     ·rintro w' ⟨s0, s1⟩
      go_simp
      with_reducible rfl
     rotate_left
     ·simp only [Act.put, List.setIfInBounds_toArray, List.set_cons_zero, List.set_cons_succ, i64_w, i32_w]
      rfl
     refine pure_ (i := 9) (N := some 37) (v := ?_) (a' := ?_) #[true, true, true, true, true, true, true, true, true, true, false, false, false, false, false] rfl rfl (by kernel_rfl) (fun _ _ _ h => h) (Or.inl ⟨by rfl, ?_⟩) ?_ ?_
     rotate_left
     ·intro w'
      go_simp
      with_reducible rfl
     rotate_left
     ·simp only [Act.put, List.setIfInBounds_toArray, List.set_cons_zero, List.set_cons_succ, i64_w, i32_w]
      rfl
     refine one_ (i := 10) (N := some 38) #[true, true, true, true, true, true, true, true, true, true, true, false, false, false, false] rfl rfl (by kernel_rfl) (by decide) (fun K hK => ?_)
     refine value_ (w1 := ?_) (v := ?_) (by rfl) rfl ?_ ?_
     rotate_left 2
     ·go_simp
      constructor
      ·rfl
      ·rfl
     refine hK.out _ _ ⟨((blk_cell (blk_alloc HP5.out.hg _) 2).trans rfl), ((blk_cell (blk_alloc HX5.out _) 0).trans rfl)⟩ (fun hHeld => ?_)
     clear hK K
     refine norm_ (a' := ?_) ?_ ?_
     rotate_left
     ·show Act.put _ (some 38) _ = _
      simp only [Act.put, List.setIfInBounds_toArray, List.set_cons_zero, List.set_cons_succ, i64_w, i32_w]
      rfl
     refine last_ (i := 11) (N := some 39) #[true, true, true, true, true, true, true, true, true, true, true, true, false, false, false] rfl rfl (by kernel_rfl) (by decide) (fun K hK => ?_)
     rw [show (W5.alloc (.cells #[.int .i64 sys, .int .i64 sec, .string d] 84)).drew = W5.drew.alloc (.cells #[.int .i64 sys, .int .i64 sec, .string d] 84) from rfl]
     refine Kd.R_append_step k99 (w0 := W5.drew) (W := W5.drew) B (by rfl) (.tmp 32) (.tmp 38) 76 84 (.agg #[.int .i64 0, .int .i64 0, .string ⟨#[]⟩]) 32 rfl Try.underlying76 info84 rfl (by decide) (by omega) (.slice A S5.pend.length c) S5.pend ⟨sys, sec, d⟩ [.int .i64 sys, .int .i64 sec, .string d] (fun k => F5 k ∨ W5.heap.size ≤ k) (fun _ => False) rfl rfl (k99_mkM _ _ _ ⟨sys, sec, d⟩) (fun _ h => h.elim) (fun k hk => Or.inr hk) (Kd.R_mono HP5.out.hp (fun k hk => Or.inl hk)) (Below.refl _ _) hB5 (by omega) ?_
     intro v1 w1 hR1 hb1 hg1 hat1
     obtain ⟨A1, c1, hv1, _, _⟩ := Kd.R_reads hR1
     subst hv1
     have hg1 : W5.grownBy w1 (Value.slice A S5.pend.length c).ownBlock := ⟨hg1.os, hg1.tape, hg1.output, hg1.size, hg1.block⟩
     have hb1 : Below B W5 w1 := ⟨hb1.os, hb1.tape, hb1.output, hb1.size, hb1.block⟩
     have hgw := blk_grown HP5.out.hg hg1 (fun e => Kd.R_ne HP5.out.hp HP5.out.hg (by decide) e)
     have g2 : w1.cell? ⟨L.g, 2, none⟩ = some (.slice A S5.pend.length c) := by rw [blk_cell hgw]; rfl
     have gf : w1.frozen? ⟨L.g, 2, none⟩ = false := blk_frozen hgw 2
     have HR1 := Aside0.mk hR1
     have HB1a := Aside0.mk hb1
     have HG1 := Aside0.mk hg1
     have HAT1 := Aside0.mk hat1
     clear hR1 hb1 hg1 hat1 hgw
     refine hK.out _ _ ?_
     clear hK K
     refine norm_ (a' := ?_) ?_ ?_
     rotate_left
     ·show Act.put _ (some 39) _ = _
      simp only [Act.put, List.setIfInBounds_toArray, List.set_cons_zero, List.set_cons_succ, i64_w, i32_w]
      rfl
     refine pure_ (i := 12) (N := some 40) (v := ?_) (a' := ?_) #[true, true, true, true, true, true, true, true, true, true, true, true, true, false, false] rfl rfl (by kernel_rfl) (fun _ _ _ h => h) (Or.inl ⟨by rfl, ?_⟩) ?_ ?_
     rotate_left
     ·intro w'
      go_simp
      with_reducible rfl
     rotate_left
     ·simp only [Act.put, List.setIfInBounds_toArray, List.set_cons_zero, List.set_cons_succ, i64_w, i32_w]
      rfl
     refine pure_ (i := 13) (N := some 41) (v := ?_) (a' := ?_) #[true, true, true, true, true, true, true, true, true, true, true, true, true, true, false] rfl rfl (by kernel_rfl) (fun _ _ _ h => h) (Or.inl ⟨by rfl, ?_⟩) ?_ ?_
     rotate_left
     ·intro w'
      go_simp
      with_reducible rfl
     rotate_left
     ·simp only [Act.put, List.setIfInBounds_toArray, List.set_cons_zero, List.set_cons_succ, i64_w, i32_w]
      rfl
     refine last_ (i := 14) (N := none) #[true, true, true, true, true, true, true, true, true, true, true, true, true, true, true] rfl rfl (by kernel_rfl) (by decide) (fun K hK => ?_)
     refine skip_ (w1 := ?_) (by rfl) rfl ?_ ?_
     rotate_left
     ·go_simp
      rfl
     refine hK.out _ _ ?_
     clear hK K
     refine done_ (by kernel_rfl) ?_
     go_wp2_with fail
     go_ret
     refine ⟨rfl, ?_⟩
     have hpush := HP5.out.push (w := ⟨sys, sec, d⟩) HG1.out HR1.out HAT1.out HB1a.out
     rw [show (S5.pend ++ [(⟨sys, sec, d⟩ : S99)]).length = S5.pend.length + 1 from by rw [List.length_append]; rfl] at hpush
     obtain ⟨F6, i1, i2, i3, i4⟩ := hpush
     obtain ⟨a1, a2⟩ := HKB.out
     have hz5 := a1.1
     exact ⟨F6, i1, fun q z => (i2 q z).elim (fun y => HF5.out q y) (fun y => Or.inr (by omega)), a1.then_ i3 (fun q z => HF5.out q z), a2.trans i4⟩
    ·rw [if_neg he]
     have he1 : (e5 == 0) = false := beq_eq_false_iff_ne.2 he
     have he2 : (e5 != 0) = true := bne_iff_ne.2 he
     have HE := Aside0.mk he
     clear he
     go_enter Try.func20, Try.ntmps20
     go_wp2_with fail
     refine HC.out.mono ?_
     rintro e W2 ⟨rfl, hb2⟩
     have HB2 := Aside0.mk (HB1.out.trans (hb2.mono HB1.out.size))
     have HX2 := Aside0.mk (blk_below HX1.out hb2)
     have HI2 := Aside0.mk (HI.out.below HB2.out)
     have lW : W.heap.size < W2.heap.size := blk_lt HX2.out
     have x0 : W2.cell? ⟨W.heap.size, 0, none⟩ = some (.int .i64 sys) := by rw [blk_cell HX2.out]; rfl
     have x1 : W2.cell? ⟨W.heap.size, 1, none⟩ = some (.int .i64 ep) := by rw [blk_cell HX2.out]; rfl
     have HT : Aside0 (Calls Try.prog 49 #[.pointer (some ⟨L.g, 0, none⟩), .int .i64 sec] W2 fun e W' => e = .returned (.bool true) ∧ W2 = W') := by
      obtain ⟨vs, pv, uv, m, hP⟩ := HI2.out
      exact ⟨there_yes hP sec hin.1 hin.2⟩
     have HIN := Aside0.mk hin
     clear hb2 HC hin
     go_wp2_with fail
     refine HT.out.mono ?_
     rintro e W3 ⟨rfl, rfl⟩
     clear HT
     go_wp2_with fail
     refine (HADM.out W2 HI2.out).mono ?_
     rintro e W5 ⟨rfl, F5, hI5, hF5, hk5, hb5⟩
     have HX5 := Aside0.mk (blk_kept HX2.out hk5 (fun z => by have := (HI.out.range _ z).2; omega))
     clear HADM
     have HPO := Aside0.mk (show DevPost B L F S5 W W5 from ⟨F5, hI5, fun q z => (hF5 q z).imp id (fun y => by have := HB2.out.size; omega), (Kept.of_below HB2.out F).then_ hk5 (fun _ z => Or.inl z), (HB2.out.mono hB).trans hb5⟩)
     clear hI5 hF5 hk5 hb5 HZ
     go_wp2_with fail
     go_ret
     exact ⟨rfl, HPO.out⟩
   ·rw [if_neg hin]
    go_enter Try.func20, Try.ntmps20
    go_wp2_with fail
    refine HC.out.mono ?_
    rintro e W2 ⟨rfl, hb2⟩
    have HB2 := Aside0.mk (HB1.out.trans (hb2.mono HB1.out.size))
    have HT : Aside0 (Calls Try.prog 49 #[.pointer (some ⟨L.g, 0, none⟩), .int .i64 sec] W2 fun e W' => e = .returned (.bool false) ∧ W2 = W') := by
     obtain ⟨vs, pv, uv, m, hP⟩ := HI.out.below HB2.out
     exact ⟨there_no hP sec hin⟩
    clear hb2 HC hin
    go_wp2_with fail
    refine HT.out.mono ?_
    rintro e W3 ⟨rfl, rfl⟩
    clear HT
    go_wp2_with fail
    go_ret
    exact ⟨rfl, DevPost.same HI.out HB2.out⟩
  ·rw [if_neg (fun z => hd z.2)]
   have hd1 : ((d.size : Int) == 140) = false := beq_eq_false_iff_ne.2 (by omega)
   have hd2 : ((d.size : Int) != 140) = true := bne_iff_ne.2 (by omega)
   clear hd
   go_enter Try.func20, Try.ntmps20
   go_wp2_with fail
   refine HC.out.mono ?_
   rintro e W2 ⟨rfl, hb2⟩
   have HB2 := Aside0.mk (HB1.out.trans (hb2.mono HB1.out.size))
   clear hb2 HC
   go_wp2_with fail
   go_ret
   exact ⟨rfl, DevPost.same HI.out HB2.out⟩
end Go.Proofs.Ytflajmgichdhhaa.PG
namespace Go.Proofs.Ytflajmgichdhhaa.PG
open Go.RowKit Go.Proofs.YtflajmgichdhhaaW.PrintWords Go.Proofs.YtflajmgichdhhaaW.PrintLast Go.Proofs.YtflajmgichdhhaaW.PrintMore
set_option linter.unusedVariables false
set_option linter.unusedSimpArgs false
theorem Fine.mono {k k' : Nat} {S : DevS} (h : Fine k S) (hk : k ≤ k') : Fine k' S := { h with plen := Nat.le_trans h.plen hk }
theorem Fine.admit {k : Nat} {S : DevS} (h : Fine k S) (sys ep : Int) : Fine k (admitS S sys ep).2 := by
 unfold admitS
 split
 ·exact h
 ·split
  ·exact h
  ·split
   ·exact h
   ·split
    ·have := h.l0; exact { h with l0 := ⟨by show 0 ≤ S.left - 1; omega, by show S.left - 1 ≤ _; omega⟩ }
    ·exact h.blown.finish _ _
set_option maxRecDepth 100000 in
theorem crash_calls {W : World} {B : Nat} {L : Lay} {F : Nat → Prop} {S : DevS} {k : Nat} (hI : DevIs W B L F S) (hf : Fine k S) (hk : k ≤ 1000000) (sys : Int) (A : Option Addr) (c : Nat) (l : List Int) (hl : Kd.F (Kd.int .i64) W (fun k => ¬ F k) A l.length l) (hlc : l.length ≤ c) (hlm : l.length ≤ 4611686018427387904) :
  Calls Try.prog 22 #[.pointer (some ⟨L.g, 0, none⟩), .int .i64 sys, .slice A l.length c] W fun e W' => e = .returned (.tuple #[]) ∧ DevPost B L F (finishS (isOf sys) l S) W W' := by
 have hB := hI.hB
 have hrg := hI.range
 have hb1 := below_alloc (Below.refl W.heap.size W) (.cells #[.int .i64 sys] 3)
 obtain ⟨vs, pv, uv, m, hP⟩ := hI
 have hP1 := hP.below hb1
 have hfin := finish_calls hP1 hf hk 62 #[.pointer (some ⟨W.heap.size, 0, none⟩)] (isOf sys) (matchOf _ _ W.heap.size sys (blk_new _ _) (fun z => by have := (hrg _ (hP.own _ z)).2; omega)) A c l
  (Kd.F_mono (Kd.F_below hl hb1) (fun k hk z => hk (hP.own _ z))) hlc hlm
 have HFIN := Aside0.mk hfin
 have HB1 := Aside0.mk hb1
 clear hP hP1 hfin hb1 hl hrg hf
 go_enter Try.func22, Try.ntmps22
 go_wp2_with fail
 refine (of_calls W sys).mono ?_
 rintro e W1 ⟨rfl, hW1⟩
 rw [← hW1] at HFIN HB1
 clear hW1
 go_wp2_with fail
 refine HFIN.out.mono ?_
 rintro e W2 ⟨rfl, hpo⟩
 have HPO := Aside0.mk (hpo.after HB1.out hB)
 clear hpo HFIN
 go_wp2_with fail
 go_end0
 exact ⟨rfl, HPO.out⟩
def ints (xs : List Int) : Array Value := (xs.map (Value.int .i64)).toArray
theorem ints_set (xs : List Int) (i : Nat) (s : Int) : (ints xs).setIfInBounds i (.int .i64 s) = ints (xs.set i s) := by
 unfold ints
 rw [List.setIfInBounds_toArray, List.map_set]
theorem ints_at (xs : List Int) (i : Nat) (h : i < xs.length) : (ints xs)[i]? = some (.int .i64 xs[i]) := by
 unfold ints
 rw [List.getElem?_toArray, List.getElem?_map, List.getElem?_eq_getElem h]; rfl
theorem ints_C {W : World} {nb : Nat} {l : List Int} (h : W.heap[nb]? = some (.cells (ints l) 3 (0, 0))) (hm : l.length ≤ 9223372036854775807) : Kd.C (Kd.int .i64) W (some ⟨nb, 0, none⟩) l.length l := by
 refine ⟨rfl, hm, fun _ => ⟨_, rfl, fun j p hj => ⟨[.int .i64 p], rfl, rfl, fun i u hi => ?_⟩⟩⟩
 match i with
 | 0 =>
  cases hi
  obtain ⟨hjl, hjp⟩ := List.getElem?_eq_some_iff.1 hj
  have e : (⟨nb, 0, none⟩ : Addr).add (j * (Kd.int .i64).sz + 0) = ⟨nb, j, none⟩ := by
   show (⟨nb, 0, none⟩ : Addr).add (j * 1 + 0) = _
   rw [Nat.mul_one, Nat.add_zero, add_plain]
  rw [e, blk_cell h, ints_at l j hjl, hjp]
 | i + 1 => cases hi
theorem ints_F {W : World} {nb : Nat} {l : List Int} {ok : Nat → Prop} (h : W.heap[nb]? = some (.cells (ints l) 3 (0, 0))) (hm : l.length ≤ 9223372036854775807) (hok : ok nb) : Kd.F (Kd.int .i64) W ok (some ⟨nb, 0, none⟩) l.length l :=
 fun W' hW => ints_C ((hW nb hok (blk_lt h)).trans h) hm
def syncS (S : DevS) (sys ep : Int) : Int × DevS :=
  if plainB sys ep = true then (if (admitS S sys ep).1 = 0 then (0, finishS (isOf sys) (List.replicate (admitS S sys ep).2.pend.length 140) (admitS S sys ep).2) else admitS S sys ep) else (1, S)
theorem made_one (v : Value) (n : Nat) : madeCells #[v] n = (List.replicate n v).toArray := by
 apply Array.ext
 ·simp [madeCells]
 ·intro i h1 h2
  simp [madeCells, Nat.mod_one]
theorem made_ints (n : Nat) : madeCells #[.int .i64 0] n = ints (List.replicate n 0) := by
 rw [made_one, ints, List.map_replicate]
set_option maxHeartbeats 4000000 in
set_option maxRecDepth 100000 in
theorem sync_calls {W : World} {B : Nat} {L : Lay} {F : Nat → Prop} {S : DevS} {k : Nat} (hI : DevIs W B L F S) (hf : Fine k S) (hk : k ≤ 1000000) (hsl : S.surv.length ≤ 4611686018427387904) (sys ep : Int) :
  Calls Try.prog 21 #[.pointer (some ⟨L.g, 0, none⟩), .agg #[.int .i64 sys, .int .i64 ep]] W fun e W' => e = .returned (.int .i64 (syncS S sys ep).1) ∧ DevPost B L F (syncS S sys ep).2 W W' := by
 have hB := hI.hB
 have hb1 := below_alloc (Below.refl W.heap.size W) (.cells #[.int .i64 sys, .int .i64 ep] 35)
 have hx1 := blk_new W (.cells #[.int .i64 sys, .int .i64 ep] 35)
 have HI := Aside0.mk hI
 have HB1 := Aside0.mk hb1
 have HX1 := Aside0.mk hx1
 have HF := Aside0.mk hf
 unfold syncS
 clear hI hb1 hx1 hf
 cases hpl : plainB sys ep with
 | false =>
  rw [if_neg (by simp)]
  have HC := plain_calls (W.alloc (.cells #[.int .i64 sys, .int .i64 ep] 35)) sys ep
  rw [hpl] at HC
  have HC := Aside0.mk HC
  clear hpl
  go_enter Try.func21, Try.ntmps21
  go_wp2_with fail
  refine HC.out.mono ?_
  rintro e W2 ⟨rfl, hb2⟩
  have HB2 := Aside0.mk (HB1.out.trans (hb2.mono HB1.out.size))
  clear hb2 HC
  go_wp2_with fail
  go_ret
  exact ⟨rfl, DevPost.same HI.out HB2.out⟩
 | true =>
  rw [if_pos rfl]
  have HC := plain_calls (W.alloc (.cells #[.int .i64 sys, .int .i64 ep] 35)) sys ep
  rw [hpl] at HC
  have HC := Aside0.mk HC
  clear hpl
  have hfa := HF.out.admit sys ep
  obtain ⟨e5, S5, hr⟩ : ∃ e5 S5, admitS S sys ep = (e5, S5) := ⟨_, _, rfl⟩
  have hadm : ∀ W2, DevIs W2 B L F S → Calls Try.prog 50 #[.pointer (some ⟨L.g, 0, none⟩), .agg #[.int .i64 sys, .int .i64 ep]] W2 fun e W' => e = .returned (.int .i64 e5) ∧ DevPost B L F S5 W2 W' := fun W2 h => by
   have := admit_calls h HF.out hk hsl sys ep
   rw [hr] at this
   exact this
  rw [hr] at hfa ⊢
  have HFA := Aside0.mk (show Fine k S5 from hfa)
  have HADM := Aside0.mk hadm
  clear hr hadm hfa
  by_cases he : e5 = 0
  ·subst he
   rw [if_pos rfl]
   go_enter Try.func21, Try.ntmps21
   go_wp2_with fail
   refine HC.out.mono ?_
   rintro e W2 ⟨rfl, hb2⟩
   have HB2 := Aside0.mk (HB1.out.trans (hb2.mono HB1.out.size))
   have HX2 := Aside0.mk (blk_below HX1.out hb2)
   have HI2 := Aside0.mk (HI.out.below HB2.out)
   have lW : W.heap.size < W2.heap.size := blk_lt HX2.out
   have x0 : W2.cell? ⟨W.heap.size, 0, none⟩ = some (.int .i64 sys) := by rw [blk_cell HX2.out]; rfl
   have x1 : W2.cell? ⟨W.heap.size, 1, none⟩ = some (.int .i64 ep) := by rw [blk_cell HX2.out]; rfl
   clear hb2 HC
   go_wp2_with fail
   refine (HADM.out W2 HI2.out).mono ?_
   rintro e W5 ⟨rfl, F5, hI5, hF5, hk5, hb5⟩
   have HX5 := Aside0.mk (blk_kept HX2.out hk5 (fun z => by have := (HI.out.range _ z).2; omega))
   have HKB := Aside0.mk (⟨(Kept.of_below HB2.out F).then_ hk5 (fun _ z => Or.inl z), (HB2.out.mono hB).trans hb5⟩ : Kept W W5 F ∧ Below B W W5)
   have HF5 := Aside0.mk (show ∀ q, F5 q → F q ∨ W.heap.size ≤ q from fun q z => (hF5 q z).imp id (fun y => by have := HB2.out.size; omega))
   have hB5 := hI5.hB
   obtain ⟨vs, pv, uv, m, hP5⟩ := hI5
   have c2 := hP5.c2
   have lg := hP5.lg
   obtain ⟨A, c, hpv, _, _⟩ := hP5.pslice
   have hpl5 : S5.pend.length ≤ 1000000 := Nat.le_trans HFA.out.plen hk
   have HP5 := Aside0.mk hP5
   subst hpv
   have y0 : W5.cell? ⟨W.heap.size, 0, none⟩ = some (.int .i64 sys) := by rw [blk_cell HX5.out]; rfl
   have lW5 : W.heap.size < W5.heap.size := blk_lt HX5.out
   obtain ⟨n, hn⟩ : ∃ n, n = S5.pend.length := ⟨_, rfl⟩
   have hn1 : n ≤ 1000000 := by omega
   have hmake := print_make_int (P := Try.prog) 29 3 (.int .i64 0) 8 Try.underlying29 info3 rfl (by decide) (n : Int) (by omega) (by rw [Int.toNat_natCast]; omega)
   rw [Int.toNat_natCast, made_ints] at hmake
   rw [← hn] at c2
   have HN := Aside0.mk hn
   clear hP5 hF5 hk5 hb5 HADM hn hpl5 x0 x1
   go_wp2_with fail
   obtain ⟨W6, hW6⟩ : ∃ W6, W6 = W5.alloc (.cells (ints (List.replicate n 0)) 3) := ⟨_, rfl⟩
   have HB6 := Aside0.mk (show Below W5.heap.size W5 W6 by rw [hW6]; exact below_alloc (Below.refl _ _) _)
   have HX6 := Aside0.mk (show W6.heap[W5.heap.size]? = some (.cells (ints (List.replicate n 0)) 3 (0, 0)) by rw [hW6]; exact blk_new _ _)
   have l6 : W5.heap.size < W6.heap.size := blk_lt HX6.out
   rw [← hW6]
   clear hW6 hmake
   go_loopg [7, 25] n (fun gg _ s25 wr => ∃ (j : Nat) (l : List Int), s25 = .int .i64 j ∧ j ≤ n ∧ n - j ≤ gg ∧ W5.heap.size < wr.heap.size ∧ Aside0 (l.length = n) ∧ Aside0 (∀ i, i < j → l[i]? = some 140) ∧ Aside0 (wr.heap[W5.heap.size]? = some (.cells (ints l) 3 (0, 0))) ∧ Aside0 (Below W5.heap.size W5 wr))
   case atStart => exact ⟨0, List.replicate n 0, by go_num, Nat.zero_le _, by omega, l6, ⟨by simp⟩, ⟨fun i hi => by omega⟩, HX6, HB6⟩
   case round =>
    obtain ⟨j, l, rfl, hj, hgg, lr, HLL, HLI, HXR, HBR⟩ := hrel
    by_cases hlt : j < n
    ·have hltz : (j : Int) < (n : Int) := by omega
     have cj : wr.cell? ⟨W5.heap.size, j, none⟩ = some (.int .i64 (l[j]'(by have := HLL.out; omega))) := by rw [blk_cell HXR.out]; exact ints_at l j (by have := HLL.out; omega)
     have fj : wr.frozen? ⟨W5.heap.size, j, none⟩ = false := blk_frozen HXR.out j
     go_wp2_with fail
     go_roundg (n - (j + 1))
     case measure => omega
     case rel =>
      refine ⟨j + 1, l.set j 140, by go_num, by omega, Nat.le_refl _, by simpa [World.setCell] using lr, ⟨by rw [List.length_set]; exact HLL.out⟩, ⟨fun i hi => ?_⟩, ⟨blk_put HXR.out j _ (ints_set _ _ _)⟩, ⟨HBR.out.setCell (Nat.le_refl _) _⟩⟩
      have := HLL.out
      rw [List.getElem?_set]
      by_cases e : j = i
      ·rw [if_pos e, if_pos (by omega)]
      ·rw [if_neg e]; exact HLI.out i (by omega)
    ·obtain rfl : j = n := by omega
     have hleq : l = List.replicate j 140 := by
      apply List.ext_getElem?
      intro i
      rw [List.getElem?_replicate]
      by_cases hi : i < j
      ·rw [if_pos hi]; exact HLI.out i hi
      ·rw [if_neg hi]; exact List.getElem?_eq_none (by have := HLL.out; omega)
     have yr : wr.cell? ⟨W.heap.size, 0, none⟩ = some (.int .i64 sys) := (HBR.out.cell (p := ⟨W.heap.size, 0, none⟩) lW5).trans y0
     have h6 : Below W5.heap.size W5 wr := HBR.out
     have hfr5 := HP5.out.hr
     have hpr := HP5.out.below HBR.out
     have hal := below_alloc (Below.refl wr.heap.size wr) (.cells #[.int .i64 sys] 3)
     have hp7 := hpr.below hal
     have hx7 := blk_alloc HXR.out (.cells #[.int .i64 sys] 3)
     rw [hleq] at hx7
     have hnm : ∀ q, Mut L (.slice A S5.pend.length c) q → q < W5.heap.size := fun q z => (hfr5 q (HP5.out.own q z)).2
     have hfin := finish_calls hp7 HFA.out hk 62 #[.pointer (some ⟨wr.heap.size, 0, none⟩)] (isOf sys) (matchOf _ _ wr.heap.size sys (blk_new _ _) (fun z => by have := hnm _ z; omega)) (some ⟨W5.heap.size, 0, none⟩) j (List.replicate j 140)
      (ints_F hx7 (by simp; omega) (fun z => by have := hnm _ z; omega)) (by simp) (by simp; omega)
     rw [List.length_replicate] at hfin
     have HFIN := Aside0.mk hfin
     have HB7 := Aside0.mk (HBR.out.trans (hal.mono (by omega)))
     clear hleq h6 hfr5 hpr hal hp7 hx7 hnm hfin
     go_wp2_with fail
     refine (of_calls wr sys).mono ?_
     rintro e W7 ⟨rfl, hW7⟩
     rw [← hW7] at HFIN HB7
     clear hW7
     go_wp2_with fail
     refine HFIN.out.mono ?_
     rintro e W8 ⟨rfl, hpo⟩
     have HPO := Aside0.mk (hpo.after HB7.out hB5)
     clear hpo HFIN
     go_wp2_with fail
     go_ret
     refine ⟨rfl, ?_⟩
     obtain ⟨F6, i1, i2, i3, i4⟩ := HPO.out
     obtain ⟨a1, a2⟩ := HKB.out
     have hz5 := a1.1
     have hn := HN.out
     have e : (List.replicate S5.pend.length (140 : Int)) = List.replicate j 140 := by rw [← hn]
     rw [e]
     exact ⟨F6, i1, fun q z => (i2 q z).elim (fun y => HF5.out q y) (fun y => Or.inr (by omega)), a1.then_ i3 (fun q z => HF5.out q z), a2.trans i4⟩
  ·rw [if_neg he]
   have he1 : (e5 == 0) = false := beq_eq_false_iff_ne.2 he
   have he2 : (e5 != 0) = true := bne_iff_ne.2 he
   have HE := Aside0.mk he
   clear he
   go_enter Try.func21, Try.ntmps21
   go_wp2_with fail
   refine HC.out.mono ?_
   rintro e W2 ⟨rfl, hb2⟩
   have HB2 := Aside0.mk (HB1.out.trans (hb2.mono HB1.out.size))
   have HX2 := Aside0.mk (blk_below HX1.out hb2)
   have HI2 := Aside0.mk (HI.out.below HB2.out)
   have lW : W.heap.size < W2.heap.size := blk_lt HX2.out
   have x0 : W2.cell? ⟨W.heap.size, 0, none⟩ = some (.int .i64 sys) := by rw [blk_cell HX2.out]; rfl
   have x1 : W2.cell? ⟨W.heap.size, 1, none⟩ = some (.int .i64 ep) := by rw [blk_cell HX2.out]; rfl
   clear hb2 HC
   go_wp2_with fail
   refine (HADM.out W2 HI2.out).mono ?_
   rintro e W5 ⟨rfl, hpo⟩
   have HPO := Aside0.mk (hpo.after HB2.out hB)
   clear hpo HADM
   go_wp2_with fail
   go_ret
   exact ⟨rfl, HPO.out⟩
end Go.Proofs.Ytflajmgichdhhaa.PG
namespace Go.Proofs.Ytflajmgichdhhaa.PG
open Go.RowKit Go.Proofs.YtflajmgichdhhaaW.PrintWords Go.Proofs.YtflajmgichdhhaaW.PrintLast Go.Proofs.YtflajmgichdhhaaW.PrintMore
set_option linter.unusedVariables false
set_option linter.unusedSimpArgs false
def fenceS (S : DevS) (sys ep : Int) : DevS :=
  if sys < 1 ∨ 4 < sys then S else if (match S.fences sys with | some f => decide (f < ep) | none => true) = true then { S with fences := fun a => if a = sys then some ep else S.fences a } else S
theorem DevAt.setMap {W W' : World} {B : Nat} {L : Lay} {vs : List Value} {pv uv : Value} {m m' : Ents} {F : Nat → Prop} {S : DevS} (h : DevAt W B L vs pv uv m F S) (hg : W.grownBy W' (some L.bm)) (hm : MapIs W' L.bm m') (fs : Int → Option Int) (hl : ∀ a, look a m' = fs a) :
    DevAt W' B L vs pv uv m' F { S with fences := fs } := by
  have hk : ∀ k, k ≠ L.bm → k < W.heap.size → W'.heap[k]? = W.heap[k]? := fun k hk hlt => hg.block k hlt (fun e => hk (Option.some.inj e))
  have hs := hg.size
  exact
    { hg := (hk _ (h.hm.ne h.hg) (blk_lt h.hg)).trans h.hg
      hs := (hk _ (h.hm.ne h.hs) (blk_lt h.hs)).trans h.hs
      ho := (hk _ (h.hm.ne h.ho) (blk_lt h.ho)).trans h.ho
      hvl := h.hvl
      hv := fun i v x h1 h2 => Kd.V_step (h.hv i v x h1 h2) (fun k hk' hlt => hk k (fun e => hk'.2 (Or.inr (Or.inr (Or.inr (Or.inl e))))) hlt)
      hp := Kd.R_mono (Kd.R_step (Kd.R_bound h.hp) (fun k hk' hlt => hk k (by obtain ⟨_, _, _, q, _, cells, hc⟩ := hk'; exact h.hm.ne hc) hlt)) (fun k hk' => hk'.1)
      hm := hm
      hl := hl
      hu := Kd.V_step h.hu (fun k hk' hlt => hk k (fun e => hk'.2 (Or.inr (Or.inr (Or.inr (Or.inl e))))) hlt)
      hF := h.hF
      hr := fun k hk => by have := h.hr k hk; exact ⟨this.1, by omega⟩ }
set_option maxHeartbeats 1000000 in
set_option maxRecDepth 100000 in
theorem fence_calls {W : World} {B : Nat} {L : Lay} {F : Nat → Prop} {S : DevS} (hI : DevIs W B L F S) (sys ep : Int) :
  Calls Try.prog 27 #[.pointer (some ⟨L.g, 0, none⟩), .int .i64 sys, .int .i64 ep] W fun e W' => e = .returned (.tuple #[]) ∧ DevPost B L F (fenceS S sys ep) W W' := by
 have HI := Aside0.mk hI
 have hB := hI.hB
 unfold fenceS
 by_cases h1 : sys < 1
 ·rw [if_pos (Or.inl h1)]
  have hd : decide (sys < 1) = true := decide_eq_true h1
  clear hI h1
  go_enter Try.func27, Try.ntmps27
  go_wp2_with fail
  refine bodyPost_ret (results_none rfl _ _ _) rfl ?_
  exact ⟨rfl, DevPost.same HI.out (Below.refl _ _)⟩
 ·have hd : decide (sys < 1) = false := decide_eq_false h1
  by_cases h2 : 4 < sys
  ·rw [if_pos (Or.inr h2)]
   have hd2 : decide (4 < sys) = true := decide_eq_true h2
   clear hI h1 h2
   go_enter Try.func27, Try.ntmps27
   go_wp2_with fail
   refine bodyPost_ret (results_none rfl _ _ _) rfl ?_
   exact ⟨rfl, DevPost.same HI.out (Below.refl _ _)⟩
  ·rw [if_neg (fun z => z.elim h1 h2)]
   have hd2 : decide (4 < sys) = false := decide_eq_false h2
   obtain ⟨vs, pv, uv, m, hP⟩ := hI
   have c3 := hP.c3
   have hlook : (Instr.lookup 77 (.map (some L.bm)) (.int .i64 sys) true).run Try.prog W = .ok (.tuple #[.int .i64 ((S.fences sys).getD 0), .bool (S.fences sys).isSome]) W := by
    have h := hP.hm.run_look Try.underlying77 zero3 sys true
    rw [hP.hl] at h
    exact h
   obtain ⟨W2, hrun, hm2, hg2⟩ := hP.hm.run_update Try.underlying77 sys ep
   have hrun : (Instr.mapUpdate 77 (.map (some L.bm)) (.int .i64 sys) (.int .i64 ep)).run Try.prog W = .ok () W2 := hrun
   have hset : DevPost B L F { S with fences := fun a => if a = sys then some ep else S.fences a } W W2 := by
    refine ⟨F, ⟨vs, pv, uv, _, hP.setMap hg2 hm2 _ (fun a => ?_)⟩, fun k z => Or.inl z, Kept.of_grown hg2 (Kept.refl _ _) (fun k hk => Or.inl (by cases hk; exact hP.hF.2.2.2)), (Below.refl B W).grown hg2 hB (fun k hk => by cases hk; exact (hP.hr _ hP.hF.2.2.2).1)⟩
    rw [look_upd, hP.hl]
   have HSET := Aside0.mk hset
   clear hset hm2 hg2 hP
   cases hfe : S.fences sys with
   | none =>
    rw [hfe] at hlook
    simp only [Option.getD_none, Option.isSome_none] at hlook
    rw [if_pos rfl]
    clear hfe h1 h2
    go_enter Try.func27, Try.ntmps27
    go_wp2_with fail
    go_end0
    exact ⟨rfl, HSET.out⟩
   | some f =>
    rw [hfe] at hlook
    simp only [Option.getD_some, Option.isSome_some] at hlook
    by_cases h3 : f < ep
    ·have hd3 : decide (f < ep) = true := decide_eq_true h3
     rw [if_pos hd3]
     clear hfe h1 h2 h3
     go_enter Try.func27, Try.ntmps27
     go_wp2_with fail
     go_end0
     exact ⟨rfl, HSET.out⟩
    ·have hd3 : decide (f < ep) = false := decide_eq_false h3
     rw [if_neg (by show ¬ decide (f < ep) = true; rw [hd3]; simp)]
     clear hfe h1 h2 h3
     go_enter Try.func27, Try.ntmps27
     go_wp2_with fail
     go_end0
     exact ⟨rfl, DevPost.same HI.out (Below.refl _ _)⟩
def returnS (S : DevS) (sec back : Int) : Int × DevS :=
  if (0 ≤ sec ∧ sec < (S.stable.length : Int)) ∧ 1 ≤ back ∧ back ≤ ((S.old.getD sec.toNat []).length : Int) then (0, { S with stable := S.stable.set sec.toNat ((S.old.getD sec.toNat []).getD (back - 1).toNat ⟨#[]⟩) }) else (2, S)
theorem DevAt.setStable {W : World} {B : Nat} {L : Lay} {vs : List Value} {pv uv : Value} {m : Ents} {F : Nat → Prop} {S : DevS} (h : DevAt W B L vs pv uv m F S) (n : Nat) (d : ByteArray) :
    DevAt (W.setCell ⟨L.sb, n, none⟩ (.string d)) B L vs pv uv m F { S with stable := S.stable.set n d } := by
  have hgs : L.g ≠ L.sb := blk_ne h.hg h.hs (by decide)
  have hos : L.ob ≠ L.sb := blk_ne h.ho h.hs (by decide)
  have hsm : L.sb ≠ L.bm := h.hm.ne h.hs
  have hfar : ∀ k, k ≠ L.sb → (W.setCell ⟨L.sb, n, none⟩ (.string d)).heap[k]? = W.heap[k]? := fun k hk => Below.heap_setCell _ _ _ _ hk
  exact
    { hg := by
        refine (hfar _ hgs).trans (h.hg.trans ?_)
        unfold gcells
        simp only [List.length_set]
      hs := blk_put h.hs n _ (strs_set _ _ _)
      ho := (hfar _ hos).trans h.ho
      hvl := h.hvl
      hv := fun i v x h1 h2 => Kd.V_step (h.hv i v x h1 h2) (fun k hk _ => hfar k (fun e => hk.2 (Or.inr (Or.inl e))))
      hp := Kd.R_mono (Kd.R_step (Kd.R_types h.hp h.hs (by decide)) (fun k hk _ => hfar k hk.2)) (fun k hk => hk.1)
      hm := h.hm.move (hfar _ (fun e => hsm e.symm))
      hl := h.hl
      hu := Kd.V_step h.hu (fun k hk _ => hfar k (fun e => hk.2 (Or.inr (Or.inl e))))
      hF := h.hF
      hr := fun k hk => by have := h.hr k hk; exact ⟨this.1, by simpa [World.setCell] using this.2⟩ }
theorem DevAt.setStablePost {W : World} {B : Nat} {L : Lay} {vs : List Value} {pv uv : Value} {m : Ents} {F : Nat → Prop} {S : DevS} (h : DevAt W B L vs pv uv m F S) (n : Nat) (d : ByteArray) :
  DevPost B L F { S with stable := S.stable.set n d } W (W.setCell ⟨L.sb, n, none⟩ (.string d)) :=
 ⟨F, ⟨vs, pv, uv, m, h.setStable n d⟩, fun k z => Or.inl z, (Kept.refl W F).setCell (Or.inl h.hF.2.1) _, (Below.refl B W).setCell (h.hr _ h.hF.2.1).1 _⟩
set_option maxHeartbeats 1000000 in
set_option maxRecDepth 100000 in
theorem return_calls {W : World} {B : Nat} {L : Lay} {F : Nat → Prop} {S : DevS} {k : Nat} (hI : DevIs W B L F S) (hf : Fine k S) (sec back : Int) :
  Calls Try.prog 26 #[.pointer (some ⟨L.g, 0, none⟩), .int .i64 sec, .int .i64 back] W fun e W' => e = .returned (.int .i64 (returnS S sec back).1) ∧ DevPost B L F (returnS S sec back).2 W W' := by
 have HI := Aside0.mk hI
 have hB := hI.hB
 obtain ⟨vs, pv, uv, m, hP⟩ := hI
 unfold returnS
 by_cases h1 : 0 ≤ sec ∧ sec < (S.stable.length : Int)
 ·have HT := Aside0.mk (there_yes hP sec h1.1 h1.2)
  obtain ⟨n, hn⟩ := Int.eq_ofNat_of_zero_le h1.1
  subst hn
  have hns : n < S.stable.length := by omega
  have hno : n < S.old.length := by rw [hf.len]; exact hns
  have hnz : (n : Int) < (S.stable.length : Int) := h1.2
  rw [Int.toNat_natCast]
  have hso : S.old.getD n [] = S.old[n] := by rw [List.getD_eq_getElem?_getD, List.getElem?_eq_getElem hno]; rfl
  rw [hso]
  obtain ⟨A, c, co, hlc, hfo, hvn⟩ := hP.co n hno
  have c0 := hP.c0
  have c1 := hP.c1
  obtain ⟨x0, cs⟩ : ∃ x0, W.cell? ⟨L.sb, n, none⟩ = some (.string x0) := ⟨_, hP.cs n hns⟩
  have fs : W.frozen? ⟨L.sb, n, none⟩ = false := blk_frozen hP.hs n
  obtain ⟨y, hy⟩ : ∃ y, y = S.old[n] := ⟨_, rfl⟩
  rw [← hy] at co hlc hfo hvn ⊢
  have HP := Aside0.mk hP
  have HC := Aside0.mk (Kd.F_now hfo)
  by_cases h2 : 1 ≤ back
  ·have hd : decide (back < 1) = false := decide_eq_false (by omega)
   by_cases h3 : back ≤ (y.length : Int)
   ·have hd3 : decide ((y.length : Int) < back) = false := decide_eq_false (by omega)
    rw [if_pos ⟨h1, h2, h3⟩]
    obtain ⟨b, hb⟩ := Int.eq_ofNat_of_zero_le (show 0 ≤ back - 1 by omega)
    have hbl : b < y.length := by omega
    obtain ⟨ad, e, q0⟩ := Kd.at_string HC.out (b : Int) (by omega) (by omega)
    have hbe : back = (b : Int) + 1 := by omega
    rw [Int.toNat_natCast] at q0
    have hrd : rdOf ByteArray.empty y (b : Int) = y[b] := by unfold rdOf; rw [Int.toNat_natCast, List.getD_eq_getElem?_getD, List.getElem?_eq_getElem hbl]; rfl
    rw [hrd] at q0
    have hgd : y.getD (back - 1).toNat ⟨#[]⟩ = y[b] := by rw [hb, Int.toNat_natCast, List.getD_eq_getElem?_getD, List.getElem?_eq_getElem hbl]; rfl
    rw [hgd]
    obtain ⟨x, hx⟩ : ∃ x, x = y[b] := ⟨_, rfl⟩
    rw [← hx] at q0 ⊢
    subst e
    subst hbe
    have hbz : (b : Int) < (y.length : Int) := by omega
    have hb1 : (b : Int) + 1 - 1 = (b : Int) := by omega
    have hm9 : (y.length : Int) ≤ 9223372036854775807 := by have := Kd.C_max HC.out; omega
    have hw1 : IntKind.i64.wrap (b : Int) = (b : Int) := by rw [IntKind.wrap_i64]; omega
    have hw2 : wrap64 (b : Int) = (b : Int) := by unfold wrap64; omega
    clear hm9
    clear hP hf h1 h3 hso hy hfo hvn hb hbl hrd hgd hx hns hno h2
    go_enter Try.func26, Try.ntmps26
    go_wp2_with fail
    refine HT.out.mono ?_
    rintro e W2 ⟨rfl, rfl⟩
    go_wp2_with fail
    go_region
    go_wp2_with fail
    go_ret
    exact ⟨rfl, (HP.out.setStablePost n x).then_ (fun F1 h1 => DevPost.same h1 (below_drewN (Below.refl _ _) 1))⟩
   ·have hd3 : decide ((y.length : Int) < back) = true := decide_eq_true (by omega)
    rw [if_neg (fun z => h3 z.2.2)]
    clear hP hf h1 h3 hso hy hfo hvn hns hno h2
    go_enter Try.func26, Try.ntmps26
    go_wp2_with fail
    refine HT.out.mono ?_
    rintro e W2 ⟨rfl, rfl⟩
    go_wp2_with fail
    go_ret
    exact ⟨rfl, DevPost.same HI.out (Below.refl _ _)⟩
  ·have hd : decide (back < 1) = true := decide_eq_true (by omega)
   rw [if_neg (fun z => h2 z.2.1)]
   clear hP hf h1 hso hy hfo hvn hns hno h2
   go_enter Try.func26, Try.ntmps26
   go_wp2_with fail
   refine HT.out.mono ?_
   rintro e W2 ⟨rfl, rfl⟩
   go_wp2_with fail
   go_ret
   exact ⟨rfl, DevPost.same HI.out (Below.refl _ _)⟩
 ·have HT := Aside0.mk (there_no hP sec h1)
  rw [if_neg (fun z => h1 z.1)]
  clear hP hf h1
  go_enter Try.func26, Try.ntmps26
  go_wp2_with fail
  refine HT.out.mono ?_
  rintro e W2 ⟨rfl, rfl⟩
  go_wp2_with fail
  go_ret
  exact ⟨rfl, DevPost.same HI.out (Below.refl _ _)⟩
end Go.Proofs.Ytflajmgichdhhaa.PG
