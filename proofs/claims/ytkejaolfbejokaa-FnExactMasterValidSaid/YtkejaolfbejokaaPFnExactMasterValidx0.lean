-- Written by a program of this session, in the manner of the kit's print (wip/pp.py): functions and their contracts.
import Derived.Test.YtkejaolfbejokaaProg
import Derived.Below
import Derived.Deep.Draws
import Derived.Deep.AppendLies
import Derived.Maps.AppendAt
import Derived.OwnWalk
import Derived.Laws.BytesArg
import Derived.Laws.MakeOwn
import Derived.Laws.OwnMore
import Derived.Deep.OwnRows
import Derived.Tactics
import Derived.Lib.ConvBytes
import Derived.Laws.Slices
import Derived.WalkKit
import Derived.KernelRfl
import Derived.RowKit3
import Derived.Deep.LoopGhost
import Derived.Deep.QuietTactic
import Derived.BigQuiet
import Derived.WideLaws
import Derived.Deep.DeepCutAuto
import Derived.Deep.CutBlock
import Derived.Deep.RegionHeld3
import Derived.Laws.Rows
import Derived.Lib.AppendStr
import Derived.ArgAppend
import Derived.Laws.IdiomCopy
import Derived.OrdersHeld
import Derived.Laws.BitsLemmas
import Derived.RowKit
import Derived.Test.YtkejaolfbejokaaWWords
import Derived.Test.YtkejaolfbejokaaWLast
import Derived.Test.YtkejaolfbejokaaWTab
import Derived.Test.YtkejaolfbejokaaWFour
import Derived.Test.YtkejaolfbejokaaWQPut
import Derived.Test.YtkejaolfbejokaaWApart
import Derived.Test.YtkejaolfbejokaaWArr
import Derived.Test.YtkejaolfbejokaaWZeros
import Derived.Test.YtkejaolfbejokaaWFoot
import Derived.Test.YtkejaolfbejokaaWKept
import Derived.Test.YtkejaolfbejokaaWShare
import Derived.Test.YtkejaolfbejokaaWN
import Derived.Test.YtkejaolfbejokaaWFootNe
import Derived.Test.YtkejaolfbejokaaWAt
import Derived.Test.YtkejaolfbejokaaWEqStruct
import Derived.Test.YtkejaolfbejokaaWRepsOne
import Derived.Test.YtkejaolfbejokaaWInv
import Derived.Test.YtkejaolfbejokaaWInvWords
import Derived.Test.YtkejaolfbejokaaWGuard
import Derived.Test.YtkejaolfbejokaaWNEv
import Derived.Test.YtkejaolfbejokaaWMore
import Derived.Test.YtkejaolfbejokaaX
namespace Go.Proofs.Ytkejaolfbejokaa.PFnExactMasterValid
open Go.RowKit Go.Proofs.YtkejaolfbejokaaW.PrintWords Go.Proofs.YtkejaolfbejokaaW.PrintLast Go.Proofs.YtkejaolfbejokaaW.PrintMore
attribute [local go_sem] binOp_leq_str binOp_gtr_str binOp_geq_str max2_int min2_int max_two min_two max_three min_three max_four min_four   -- for this text's walks alone
set_option linter.unusedVariables false
set_option linter.unusedSimpArgs false



def errW : Option Int → Value
  | none => .nilIface
  | some c => .iface 0 (.int .i64 c)
theorem errW_none : errW none = .nilIface := rfl
theorem errW_some (c : Int) : errW (some c) = .iface 0 (.int .i64 c) := rfl

theorem info127 : (Try.prog.info? 127).map (fun i => (i.zero, i.size, i.bytes)) = some (some (.agg #[(.string ⟨#[]⟩), (.string ⟨#[]⟩)]), 2, 32) := by kernel_rfl
theorem info129 : (Try.prog.info? 129).map (fun i => (i.zero, i.size, i.bytes)) = some (some (.agg #[(.int .i64 0), (.string ⟨#[]⟩), (.string ⟨#[]⟩)]), 3, 40) := by kernel_rfl
-- the values' own types
/-! #### struct type 150 -/
structure S150 where
  f0 : ByteArray
  f1 : ByteArray
def z150 : S150 := ⟨(⟨#[]⟩ : ByteArray), (⟨#[]⟩ : ByteArray)⟩
def k150 : Kd S150 := Kd.iso (Kd.pair Kd.string Kd.string) (fun x : S150 => (x.f0, x.f1))
theorem k150_open {w : World} {x : S150} {cs : List Value} (h : k150.K w x cs) : cs = [.string x.f0, .string x.f1] := by
  obtain ⟨_, _, rfl, rfl, rfl⟩ := h
  exact rfl
theorem k150_openM {w : World} {base : Nat} {ok : Nat → Prop} {x : S150} {cs : List Value} (h : k150.M w base ok x cs) : cs = [.string x.f0, .string x.f1] := by
  obtain ⟨_, _, rfl, rfl, rfl⟩ := h
  exact rfl
theorem k150_mk (w : World) (x : S150)  : k150.K w x [.string x.f0, .string x.f1] := ⟨[.string x.f0], [.string x.f1], rfl, rfl, rfl⟩
theorem k150_mkM (w : World) (base : Nat) (ok : Nat → Prop) (x : S150)  : k150.M w base ok x [.string x.f0, .string x.f1] := ⟨[.string x.f0], [.string x.f1], rfl, rfl, rfl⟩
def rd_T150 (xs : List S150) (i : Int) : S150 := xs.getD i.toNat z150
theorem at_T150 {w : World} {A : Option Addr} {n : Nat} {xs : List S150} (h : Kd.C k150 w A n xs) (i : Int) (h0 : 0 ≤ i) (h1 : i < n) : ∃ ad , A = some ad ∧ w.cell? (ad.add (i.toNat * 2)) = some (.string (rd_T150 xs i).f0) ∧ w.cell? ⟨(ad.add (i.toNat * 2)).block, (ad.add (i.toNat * 2)).off + 1, none⟩ = some (.string (rd_T150 xs i).f1) := by
  obtain ⟨ad, c, e, _, hK, hc0⟩ := Kd.C_get h z150 i h0 h1
  have hc : ∀ j u, c[j]? = some u → w.cell? (ad.add (i.toNat * 2 + j)) = some u := hc0
  obtain rfl := k150_open hK
  exact ⟨ad, e, hc 0 _ rfl, by rw [← add_field _ _ 1 (by omega)]; exact hc 1 _ rfl⟩

/-! #### struct type 162 -/
structure S162 where
  f0 : Int
  f1 : S150
def z162 : S162 := ⟨(0 : Int), z150⟩
def k162 : Kd S162 := Kd.iso (Kd.pair (Kd.int .i64) k150) (fun x : S162 => (x.f0, x.f1))
theorem k162_open {w : World} {x : S162} {cs : List Value} (h : k162.K w x cs) : cs = [.int .i64 x.f0, .string x.f1.f0, .string x.f1.f1] := by
  obtain ⟨_, _, rfl, rfl, s1⟩ := h
  obtain rfl := k150_open s1
  exact rfl
theorem k162_openM {w : World} {base : Nat} {ok : Nat → Prop} {x : S162} {cs : List Value} (h : k162.M w base ok x cs) : cs = [.int .i64 x.f0, .string x.f1.f0, .string x.f1.f1] := by
  obtain ⟨_, _, rfl, rfl, s1⟩ := h
  obtain rfl := k150_openM s1
  exact rfl
theorem k162_mk (w : World) (x : S162)  : k162.K w x [.int .i64 x.f0, .string x.f1.f0, .string x.f1.f1] := ⟨[.int .i64 x.f0], [.string x.f1.f0, .string x.f1.f1], rfl, rfl, (k150_mk w x.f1 )⟩
theorem k162_mkM (w : World) (base : Nat) (ok : Nat → Prop) (x : S162)  : k162.M w base ok x [.int .i64 x.f0, .string x.f1.f0, .string x.f1.f1] := ⟨[.int .i64 x.f0], [.string x.f1.f0, .string x.f1.f1], rfl, rfl, (k150_mkM w base ok x.f1 )⟩
def rd_T162 (xs : List S162) (i : Int) : S162 := xs.getD i.toNat z162
theorem at_T162 {w : World} {A : Option Addr} {n : Nat} {xs : List S162} (h : Kd.C k162 w A n xs) (i : Int) (h0 : 0 ≤ i) (h1 : i < n) : ∃ ad , A = some ad ∧ w.cell? (ad.add (i.toNat * 3)) = some (.int .i64 (rd_T162 xs i).f0) ∧ w.cell? ⟨(ad.add (i.toNat * 3)).block, (ad.add (i.toNat * 3)).off + 1, none⟩ = some (.string (rd_T162 xs i).f1.f0) ∧ w.cell? ⟨(ad.add (i.toNat * 3)).block, (ad.add (i.toNat * 3)).off + 2, none⟩ = some (.string (rd_T162 xs i).f1.f1) := by
  obtain ⟨ad, c, e, _, hK, hc0⟩ := Kd.C_get h z162 i h0 h1
  have hc : ∀ j u, c[j]? = some u → w.cell? (ad.add (i.toNat * 3 + j)) = some u := hc0
  obtain rfl := k162_open hK
  exact ⟨ad, e, hc 0 _ rfl, by rw [← add_field _ _ 1 (by omega)]; exact hc 1 _ rfl, by rw [← add_field _ _ 2 (by omega)]; exact hc 2 _ rfl⟩

/-! #### struct type 127 -/
structure S127 where
  f0 : ByteArray
  f1 : ByteArray
def z127 : S127 := ⟨(⟨#[]⟩ : ByteArray), (⟨#[]⟩ : ByteArray)⟩
def k127 : Kd S127 := Kd.iso (Kd.pair Kd.string Kd.string) (fun x : S127 => (x.f0, x.f1))
theorem k127_open {w : World} {x : S127} {cs : List Value} (h : k127.K w x cs) : cs = [.string x.f0, .string x.f1] := by
  obtain ⟨_, _, rfl, rfl, rfl⟩ := h
  exact rfl
theorem k127_openM {w : World} {base : Nat} {ok : Nat → Prop} {x : S127} {cs : List Value} (h : k127.M w base ok x cs) : cs = [.string x.f0, .string x.f1] := by
  obtain ⟨_, _, rfl, rfl, rfl⟩ := h
  exact rfl
theorem k127_mk (w : World) (x : S127)  : k127.K w x [.string x.f0, .string x.f1] := ⟨[.string x.f0], [.string x.f1], rfl, rfl, rfl⟩
theorem k127_mkM (w : World) (base : Nat) (ok : Nat → Prop) (x : S127)  : k127.M w base ok x [.string x.f0, .string x.f1] := ⟨[.string x.f0], [.string x.f1], rfl, rfl, rfl⟩
def rd_T127 (xs : List S127) (i : Int) : S127 := xs.getD i.toNat z127
theorem at_T127 {w : World} {A : Option Addr} {n : Nat} {xs : List S127} (h : Kd.C k127 w A n xs) (i : Int) (h0 : 0 ≤ i) (h1 : i < n) : ∃ ad , A = some ad ∧ w.cell? (ad.add (i.toNat * 2)) = some (.string (rd_T127 xs i).f0) ∧ w.cell? ⟨(ad.add (i.toNat * 2)).block, (ad.add (i.toNat * 2)).off + 1, none⟩ = some (.string (rd_T127 xs i).f1) := by
  obtain ⟨ad, c, e, _, hK, hc0⟩ := Kd.C_get h z127 i h0 h1
  have hc : ∀ j u, c[j]? = some u → w.cell? (ad.add (i.toNat * 2 + j)) = some u := hc0
  obtain rfl := k127_open hK
  exact ⟨ad, e, hc 0 _ rfl, by rw [← add_field _ _ 1 (by omega)]; exact hc 1 _ rfl⟩

/-! #### struct type 129 -/
structure S129 where
  f0 : Int
  f1 : S127
def z129 : S129 := ⟨(0 : Int), z127⟩
def k129 : Kd S129 := Kd.iso (Kd.pair (Kd.int .i64) k127) (fun x : S129 => (x.f0, x.f1))
theorem k129_open {w : World} {x : S129} {cs : List Value} (h : k129.K w x cs) : cs = [.int .i64 x.f0, .string x.f1.f0, .string x.f1.f1] := by
  obtain ⟨_, _, rfl, rfl, s1⟩ := h
  obtain rfl := k127_open s1
  exact rfl
theorem k129_openM {w : World} {base : Nat} {ok : Nat → Prop} {x : S129} {cs : List Value} (h : k129.M w base ok x cs) : cs = [.int .i64 x.f0, .string x.f1.f0, .string x.f1.f1] := by
  obtain ⟨_, _, rfl, rfl, s1⟩ := h
  obtain rfl := k127_openM s1
  exact rfl
theorem k129_mk (w : World) (x : S129)  : k129.K w x [.int .i64 x.f0, .string x.f1.f0, .string x.f1.f1] := ⟨[.int .i64 x.f0], [.string x.f1.f0, .string x.f1.f1], rfl, rfl, (k127_mk w x.f1 )⟩
theorem k129_mkM (w : World) (base : Nat) (ok : Nat → Prop) (x : S129)  : k129.M w base ok x [.int .i64 x.f0, .string x.f1.f0, .string x.f1.f1] := ⟨[.int .i64 x.f0], [.string x.f1.f0, .string x.f1.f1], rfl, rfl, (k127_mkM w base ok x.f1 )⟩
def rd_T129 (xs : List S129) (i : Int) : S129 := xs.getD i.toNat z129
theorem at_T129 {w : World} {A : Option Addr} {n : Nat} {xs : List S129} (h : Kd.C k129 w A n xs) (i : Int) (h0 : 0 ≤ i) (h1 : i < n) : ∃ ad , A = some ad ∧ w.cell? (ad.add (i.toNat * 3)) = some (.int .i64 (rd_T129 xs i).f0) ∧ w.cell? ⟨(ad.add (i.toNat * 3)).block, (ad.add (i.toNat * 3)).off + 1, none⟩ = some (.string (rd_T129 xs i).f1.f0) ∧ w.cell? ⟨(ad.add (i.toNat * 3)).block, (ad.add (i.toNat * 3)).off + 2, none⟩ = some (.string (rd_T129 xs i).f1.f1) := by
  obtain ⟨ad, c, e, _, hK, hc0⟩ := Kd.C_get h z129 i h0 h1
  have hc : ∀ j u, c[j]? = some u → w.cell? (ad.add (i.toNat * 3 + j)) = some u := hc0
  obtain rfl := k129_open hK
  exact ⟨ad, e, hc 0 _ rfl, by rw [← add_field _ _ 1 (by omega)]; exact hc 1 _ rfl, by rw [← add_field _ _ 2 (by omega)]; exact hc 2 _ rfl⟩

end Go.Proofs.Ytkejaolfbejokaa.PFnExactMasterValid
