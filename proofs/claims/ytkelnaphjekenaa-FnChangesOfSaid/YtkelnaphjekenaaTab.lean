/- The program's types and functions as the evaluator's tables. No condition. -/
import Derived.Test.YtkelnaphjekenaaEngC
import Derived.Test.YtkelnaphjekenaaProg
set_option maxRecDepth 100000
namespace Go.Proofs.Ytkelnaphjekenaa.Ev
open Go.Proofs.Ytkelnaphjekenaa.Eng
/-- impl.Interval -/
structure impl_Interval where
  Low : ByteArray
  High : ByteArray
/-- impl.Pair -/
structure impl_Pair where
  Key : ByteArray
  Value : Int
/-- impl.Session -/
structure impl_Session where
  Client : Int
  Seq : Int
  Reply : Int
/-- impl.State -/
structure impl_State where
  Span : impl_Interval
  Pairs : (List impl_Pair)
  Known : (List impl_Session)
  Sealed : Bool
  Cut : ByteArray
/-- impl.Command -/
structure impl_Command where
  Kind : Int
  Key : ByteArray
  Value : Int
  Old : Int
/-- impl.Entry -/
structure impl_Entry where
  Client : Int
  Seq : Int
  Cmd : impl_Command
/-- impl.Change -/
structure impl_Change where
  Index : Int
  Key : ByteArray
  Old : Int
  Next : Int
/-- spec.l20Rd -/
structure spec_l20Rd where
  b : (List Int)
  p : Int
abbrev R_impl_Interval : Ty := (.pair .str (.pair .str .unit))
abbrev Y_impl_Interval : Ty := .st 18 R_impl_Interval
abbrev R_impl_Pair : Ty := (.pair .str (.pair (.int .i64) .unit))
abbrev Y_impl_Pair : Ty := .st 25 R_impl_Pair
abbrev R_impl_Session : Ty := (.pair (.int .i64) (.pair (.int .i64) (.pair (.int .i64) .unit)))
abbrev Y_impl_Session : Ty := .st 26 R_impl_Session
abbrev R_impl_State : Ty := (.pair Y_impl_Interval (.pair (.sl Y_impl_Pair) (.pair (.sl Y_impl_Session) (.pair .bool (.pair .str .unit)))))
abbrev Y_impl_State : Ty := .st 28 R_impl_State
abbrev R_impl_Command : Ty := (.pair (.int .i64) (.pair .str (.pair (.int .i64) (.pair (.int .i64) .unit))))
abbrev Y_impl_Command : Ty := .st 30 R_impl_Command
abbrev R_impl_Entry : Ty := (.pair (.int .i64) (.pair (.int .i64) (.pair Y_impl_Command .unit)))
abbrev Y_impl_Entry : Ty := .st 29 R_impl_Entry
abbrev R_impl_Change : Ty := (.pair (.int .i64) (.pair .str (.pair (.int .i64) (.pair (.int .i64) .unit))))
abbrev Y_impl_Change : Ty := .st 31 R_impl_Change
abbrev R_spec_l20Rd : Ty := (.pair (.sl (.int .u8)) (.pair (.int .i64) .unit))
abbrev Y_spec_l20Rd : Ty := .st 38 R_spec_l20Rd
def TT : Nat → Type
  | 0 => Unit
  | 1 => Unit
  | 2 => Unit
  | 3 => Unit
  | 4 => Unit
  | 5 => Unit
  | 6 => Unit
  | 7 => Unit
  | 8 => Unit
  | 9 => Unit
  | 10 => Unit
  | 11 => Unit
  | 12 => Unit
  | 13 => Unit
  | 14 => Unit
  | 15 => Unit
  | 16 => Unit
  | 17 => Unit
  | 18 => impl_Interval
  | 19 => Unit
  | 20 => Unit
  | 21 => Unit
  | 22 => Unit
  | 23 => Unit
  | 24 => Unit
  | 25 => impl_Pair
  | 26 => impl_Session
  | 27 => Unit
  | 28 => impl_State
  | 29 => impl_Entry
  | 30 => impl_Command
  | 31 => impl_Change
  | 32 => Unit
  | 33 => Unit
  | 34 => Unit
  | 35 => Unit
  | 36 => Unit
  | 37 => Unit
  | 38 => spec_l20Rd
  | _ + 39 => Unit
def TR : Nat → Ty
  | 0 => .unit
  | 1 => .unit
  | 2 => .unit
  | 3 => .unit
  | 4 => .unit
  | 5 => .unit
  | 6 => .unit
  | 7 => .unit
  | 8 => .unit
  | 9 => .unit
  | 10 => .unit
  | 11 => .unit
  | 12 => .unit
  | 13 => .unit
  | 14 => .unit
  | 15 => .unit
  | 16 => .unit
  | 17 => .unit
  | 18 => R_impl_Interval
  | 19 => .unit
  | 20 => .unit
  | 21 => .unit
  | 22 => .unit
  | 23 => .unit
  | 24 => .unit
  | 25 => R_impl_Pair
  | 26 => R_impl_Session
  | 27 => .unit
  | 28 => R_impl_State
  | 29 => R_impl_Entry
  | 30 => R_impl_Command
  | 31 => R_impl_Change
  | 32 => .unit
  | 33 => .unit
  | 34 => .unit
  | 35 => .unit
  | 36 => .unit
  | 37 => .unit
  | 38 => R_spec_l20Rd
  | _ + 39 => .unit
def tto : ∀ i, TT i → (TR i).den TT
  | 0 => fun _ => ()
  | 1 => fun _ => ()
  | 2 => fun _ => ()
  | 3 => fun _ => ()
  | 4 => fun _ => ()
  | 5 => fun _ => ()
  | 6 => fun _ => ()
  | 7 => fun _ => ()
  | 8 => fun _ => ()
  | 9 => fun _ => ()
  | 10 => fun _ => ()
  | 11 => fun _ => ()
  | 12 => fun _ => ()
  | 13 => fun _ => ()
  | 14 => fun _ => ()
  | 15 => fun _ => ()
  | 16 => fun _ => ()
  | 17 => fun _ => ()
  | 18 => fun x => (x.Low, x.High, ())
  | 19 => fun _ => ()
  | 20 => fun _ => ()
  | 21 => fun _ => ()
  | 22 => fun _ => ()
  | 23 => fun _ => ()
  | 24 => fun _ => ()
  | 25 => fun x => (x.Key, x.Value, ())
  | 26 => fun x => (x.Client, x.Seq, x.Reply, ())
  | 27 => fun _ => ()
  | 28 => fun x => (x.Span, x.Pairs, x.Known, x.Sealed, x.Cut, ())
  | 29 => fun x => (x.Client, x.Seq, x.Cmd, ())
  | 30 => fun x => (x.Kind, x.Key, x.Value, x.Old, ())
  | 31 => fun x => (x.Index, x.Key, x.Old, x.Next, ())
  | 32 => fun _ => ()
  | 33 => fun _ => ()
  | 34 => fun _ => ()
  | 35 => fun _ => ()
  | 36 => fun _ => ()
  | 37 => fun _ => ()
  | 38 => fun x => (x.b, x.p, ())
  | _ + 39 => fun _ => ()
def tof : ∀ i, (TR i).den TT → TT i
  | 0 => fun _ => ()
  | 1 => fun _ => ()
  | 2 => fun _ => ()
  | 3 => fun _ => ()
  | 4 => fun _ => ()
  | 5 => fun _ => ()
  | 6 => fun _ => ()
  | 7 => fun _ => ()
  | 8 => fun _ => ()
  | 9 => fun _ => ()
  | 10 => fun _ => ()
  | 11 => fun _ => ()
  | 12 => fun _ => ()
  | 13 => fun _ => ()
  | 14 => fun _ => ()
  | 15 => fun _ => ()
  | 16 => fun _ => ()
  | 17 => fun _ => ()
  | 18 => fun x => ⟨x.1, x.2.1⟩
  | 19 => fun _ => ()
  | 20 => fun _ => ()
  | 21 => fun _ => ()
  | 22 => fun _ => ()
  | 23 => fun _ => ()
  | 24 => fun _ => ()
  | 25 => fun x => ⟨x.1, x.2.1⟩
  | 26 => fun x => ⟨x.1, x.2.1, x.2.2.1⟩
  | 27 => fun _ => ()
  | 28 => fun x => ⟨x.1, x.2.1, x.2.2.1, x.2.2.2.1, x.2.2.2.2.1⟩
  | 29 => fun x => ⟨x.1, x.2.1, x.2.2.1⟩
  | 30 => fun x => ⟨x.1, x.2.1, x.2.2.1, x.2.2.2.1⟩
  | 31 => fun x => ⟨x.1, x.2.1, x.2.2.1, x.2.2.2.1⟩
  | 32 => fun _ => ()
  | 33 => fun _ => ()
  | 34 => fun _ => ()
  | 35 => fun _ => ()
  | 36 => fun _ => ()
  | 37 => fun _ => ()
  | 38 => fun x => ⟨x.1, x.2.1⟩
  | _ + 39 => fun _ => ()
def z_impl_Interval : impl_Interval := ⟨⟨#[]⟩, ⟨#[]⟩⟩
def z_impl_Pair : impl_Pair := ⟨⟨#[]⟩, (0 : Int)⟩
def z_impl_Session : impl_Session := ⟨(0 : Int), (0 : Int), (0 : Int)⟩
def z_impl_State : impl_State := ⟨z_impl_Interval, [], [], false, ⟨#[]⟩⟩
def z_impl_Command : impl_Command := ⟨(0 : Int), ⟨#[]⟩, (0 : Int), (0 : Int)⟩
def z_impl_Entry : impl_Entry := ⟨(0 : Int), (0 : Int), z_impl_Command⟩
def z_impl_Change : impl_Change := ⟨(0 : Int), ⟨#[]⟩, (0 : Int), (0 : Int)⟩
def z_spec_l20Rd : spec_l20Rd := ⟨[], (0 : Int)⟩
def tz : ∀ i, TT i
  | 0 => ()
  | 1 => ()
  | 2 => ()
  | 3 => ()
  | 4 => ()
  | 5 => ()
  | 6 => ()
  | 7 => ()
  | 8 => ()
  | 9 => ()
  | 10 => ()
  | 11 => ()
  | 12 => ()
  | 13 => ()
  | 14 => ()
  | 15 => ()
  | 16 => ()
  | 17 => ()
  | 18 => z_impl_Interval
  | 19 => ()
  | 20 => ()
  | 21 => ()
  | 22 => ()
  | 23 => ()
  | 24 => ()
  | 25 => z_impl_Pair
  | 26 => z_impl_Session
  | 27 => ()
  | 28 => z_impl_State
  | 29 => z_impl_Entry
  | 30 => z_impl_Command
  | 31 => z_impl_Change
  | 32 => ()
  | 33 => ()
  | 34 => ()
  | 35 => ()
  | 36 => ()
  | 37 => ()
  | 38 => z_spec_l20Rd
  | _ + 39 => ()
theorem t1 : ∀ i (x : (TR i).den TT), tto i (tof i x) = x
  | 0 => fun _ => rfl
  | 1 => fun _ => rfl
  | 2 => fun _ => rfl
  | 3 => fun _ => rfl
  | 4 => fun _ => rfl
  | 5 => fun _ => rfl
  | 6 => fun _ => rfl
  | 7 => fun _ => rfl
  | 8 => fun _ => rfl
  | 9 => fun _ => rfl
  | 10 => fun _ => rfl
  | 11 => fun _ => rfl
  | 12 => fun _ => rfl
  | 13 => fun _ => rfl
  | 14 => fun _ => rfl
  | 15 => fun _ => rfl
  | 16 => fun _ => rfl
  | 17 => fun _ => rfl
  | 18 => fun _ => rfl
  | 19 => fun _ => rfl
  | 20 => fun _ => rfl
  | 21 => fun _ => rfl
  | 22 => fun _ => rfl
  | 23 => fun _ => rfl
  | 24 => fun _ => rfl
  | 25 => fun _ => rfl
  | 26 => fun _ => rfl
  | 27 => fun _ => rfl
  | 28 => fun _ => rfl
  | 29 => fun _ => rfl
  | 30 => fun _ => rfl
  | 31 => fun _ => rfl
  | 32 => fun _ => rfl
  | 33 => fun _ => rfl
  | 34 => fun _ => rfl
  | 35 => fun _ => rfl
  | 36 => fun _ => rfl
  | 37 => fun _ => rfl
  | 38 => fun _ => rfl
  | _ + 39 => fun _ => rfl
theorem t2 : ∀ i (x : TT i), tof i (tto i x) = x
  | 0 => fun _ => rfl
  | 1 => fun _ => rfl
  | 2 => fun _ => rfl
  | 3 => fun _ => rfl
  | 4 => fun _ => rfl
  | 5 => fun _ => rfl
  | 6 => fun _ => rfl
  | 7 => fun _ => rfl
  | 8 => fun _ => rfl
  | 9 => fun _ => rfl
  | 10 => fun _ => rfl
  | 11 => fun _ => rfl
  | 12 => fun _ => rfl
  | 13 => fun _ => rfl
  | 14 => fun _ => rfl
  | 15 => fun _ => rfl
  | 16 => fun _ => rfl
  | 17 => fun _ => rfl
  | 18 => fun _ => rfl
  | 19 => fun _ => rfl
  | 20 => fun _ => rfl
  | 21 => fun _ => rfl
  | 22 => fun _ => rfl
  | 23 => fun _ => rfl
  | 24 => fun _ => rfl
  | 25 => fun _ => rfl
  | 26 => fun _ => rfl
  | 27 => fun _ => rfl
  | 28 => fun _ => rfl
  | 29 => fun _ => rfl
  | 30 => fun _ => rfl
  | 31 => fun _ => rfl
  | 32 => fun _ => rfl
  | 33 => fun _ => rfl
  | 34 => fun _ => rfl
  | 35 => fun _ => rfl
  | 36 => fun _ => rfl
  | 37 => fun _ => rfl
  | 38 => fun _ => rfl
  | _ + 39 => fun _ => rfl
instance : Tys := ⟨TT, TR, tto, tof, tz, t1, t2⟩
def look {α : Type} (k : Nat) : List (Nat × α) → Option α
  | [] => none
  | x :: l => bif Nat.beq x.1 k then some x.2 else look k l
noncomputable def FTl : List (Nat × Func) := [(5, Try.f5), (21, Try.f21), (22, Try.f22), (23, Try.f23), (24, Try.f24), (25, Try.f25), (26, Try.f26), (27, Try.f27), (28, Try.f28), (29, Try.f29), (30, Try.f30), (54, Try.f54), (55, Try.f55), (56, Try.f56), (57, Try.f57), (58, Try.f58), (59, Try.f59), (60, Try.f60), (61, Try.f61), (62, Try.f62), (63, Try.f63), (64, Try.f64), (65, Try.f65), (66, Try.f66), (67, Try.f67), (68, Try.f68), (69, Try.f69), (70, Try.f70), (71, Try.f71), (72, Try.f72), (73, Try.f73), (74, Try.f74), (77, Try.f77), (78, Try.f78), (79, Try.f79), (89, Try.f89), (90, Try.f90), (91, Try.f91), (92, Try.f92), (93, Try.f93), (94, Try.f94), (95, Try.f95), (96, Try.f96), (97, Try.f97), (98, Try.f98), (99, Try.f99), (100, Try.f100), (101, Try.f101), (102, Try.f102), (103, Try.f103), (104, Try.f104), (105, Try.f105), (106, Try.f106), (107, Try.f107), (108, Try.f108), (109, Try.f109), (110, Try.f110), (111, Try.f111), (112, Try.f112), (124, Try.f124), (125, Try.f125), (126, Try.f126), (127, Try.f127), (128, Try.f128), (129, Try.f129), (130, Try.f130), (131, Try.f131), (132, Try.f132), (133, Try.f133), (134, Try.f134), (135, Try.f135), (136, Try.f136), (137, Try.f137), (138, Try.f138), (139, Try.f139), (140, Try.f140), (141, Try.f141), (142, Try.f142), (143, Try.f143), (144, Try.f144), (145, Try.f145), (146, Try.f146), (147, Try.f147), (148, Try.f148), (149, Try.f149), (150, Try.f150), (151, Try.f151), (152, Try.f152), (153, Try.f153)]
def TBl : List (Nat × TI) := [(3, ⟨(.int .i64), 0⟩), (4, ⟨.bool, 0⟩), (5, ⟨(.int .u8), 0⟩), (9, ⟨.str, 0⟩), (52, ⟨(.sl (.int .u8)), 1⟩), (54, ⟨Y_impl_Interval, 0⟩), (55, ⟨(.sl Y_impl_Pair), 24⟩), (56, ⟨(.sl Y_impl_Session), 24⟩), (58, ⟨Y_impl_State, 0⟩), (59, ⟨(.sl Y_impl_Entry), 56⟩), (62, ⟨(.sl Y_impl_Change), 40⟩), (65, ⟨(.sl (.int .i64)), 8⟩), (73, ⟨Y_impl_Change, 0⟩), (102, ⟨Y_impl_Command, 0⟩), (104, ⟨Y_impl_Entry, 0⟩), (112, ⟨Y_impl_Pair, 0⟩), (133, ⟨(.bx Y_spec_l20Rd), 0⟩), (140, ⟨Y_impl_Session, 0⟩), (154, ⟨(.sl Y_impl_Interval), 32⟩), (161, ⟨Y_spec_l20Rd, 0⟩), (182, ⟨(.sl Y_impl_Command), 40⟩), (183, ⟨(.sl .str), 16⟩), (184, ⟨(.int .u64), 0⟩)]
def SGl : List (Nat × Sig) := [(5, ⟨[.bor], (.pair .bool .unit), .lit⟩),
  (21, ⟨[.bor], (.pair (.tc Y_impl_State (.tc (.sl Y_impl_Entry) .unit)) .unit), (.pair (.pair (.pair .lit (.pair (.own .lit) (.pair (.own .lit) .lit))) (.pair (.own .lit) .lit)) .lit)⟩),
  (22, ⟨[.bor, .bor], (.pair (.sl Y_impl_Change) .unit), (.pair (.own .lit) .lit)⟩),
  (23, ⟨[.bor, .bor], (.pair .bool .unit), .lit⟩),
  (24, ⟨[.bor, .bor], (.pair (.sl Y_impl_Change) .unit), (.pair (.own .lit) .lit)⟩),
  (25, ⟨[.bor, .bor], (.pair (.tc Y_impl_State (.tc (.sl (.int .i64)) .unit)) .unit), (.pair (.pair (.pair .lit (.pair (.own .lit) (.pair (.own .lit) .lit))) (.pair (.own .lit) .lit)) .lit)⟩),
  (26, ⟨[.bor], (.pair .bool .unit), .lit⟩),
  (27, ⟨[], (.pair .bool .unit), .lit⟩),
  (28, ⟨[.bor, .bor], (.pair (.tc (.sl Y_impl_Pair) (.tc .bool .unit)) .unit), (.pair (.pair (.own .lit) .lit) .lit)⟩),
  (29, ⟨[.bor, .bor], (.pair .bool .unit), .lit⟩),
  (30, ⟨[.bor], (.pair .bool .unit), .lit⟩),
  (54, ⟨[.bor], (.pair (.tc Y_impl_State (.tc (.sl Y_impl_Entry) .unit)) .unit), (.pair (.pair (.pair .lit (.pair (.own .lit) (.pair (.own .lit) .lit))) (.pair (.own .lit) .lit)) .lit)⟩),
  (55, ⟨[.bor], (.pair .bool .unit), .lit⟩),
  (56, ⟨[.bor], (.pair Y_impl_State .unit), (.pair (.pair .lit (.pair (.own .lit) (.pair (.own .lit) .lit))) .lit)⟩),
  (57, ⟨[.bor, .bor], (.pair (.int .i64) .unit), .lit⟩),
  (58, ⟨[.bor, .bor], (.pair (.tc Y_impl_State (.tc (.int .i64) .unit)) .unit), (.pair (.pair (.pair .lit (.pair (.own .lit) (.pair (.own .lit) .lit))) .lit) .lit)⟩),
  (59, ⟨[.bor], (.pair .bool .unit), .lit⟩),
  (60, ⟨[.bor], (.pair .bool .unit), .lit⟩),
  (61, ⟨[.bor], (.pair Y_impl_State .unit), (.pair (.pair .lit (.pair (.own .lit) (.pair (.own .lit) .lit))) .lit)⟩),
  (62, ⟨[.bor, .bor], (.pair (.tc Y_impl_State (.tc (.int .i64) .unit)) .unit), (.pair (.pair (.pair .lit (.pair (.own .lit) (.pair (.own .lit) .lit))) .lit) .lit)⟩),
  (63, ⟨[.bor, .bor], (.pair (.int .i64) .unit), .lit⟩),
  (64, ⟨[.bor], (.pair .bool .unit), .lit⟩),
  (65, ⟨[.bor], (.pair .bool .unit), .lit⟩),
  (66, ⟨[.bor], (.pair .bool .unit), .lit⟩),
  (67, ⟨[.bor, .bor], (.pair .bool .unit), .lit⟩),
  (68, ⟨[.bor, .bor], (.pair (.tc Y_impl_Interval (.tc Y_impl_Interval (.tc .bool .unit))) .unit), .lit⟩),
  (69, ⟨[.bor], (.pair (.int .i64) .unit), .lit⟩),
  (70, ⟨[.bor], (.pair (.sl Y_impl_Pair) .unit), (.pair (.own .lit) .lit)⟩),
  (71, ⟨[.bor, .bor], (.pair (.tc (.sl Y_impl_Pair) (.tc .bool .unit)) .unit), (.pair (.pair (.own .lit) .lit) .lit)⟩),
  (72, ⟨[.bor, .bor, .bor], (.pair (.tc (.sl Y_impl_Pair) (.tc .bool .unit)) .unit), (.pair (.pair (.own .lit) .lit) .lit)⟩),
  (73, ⟨[.bor], (.pair .bool .unit), .lit⟩),
  (74, ⟨[.bor], (.pair .bool .unit), .lit⟩),
  (77, ⟨[.bor, .bor, .bor], (.pair .bool .unit), .lit⟩),
  (78, ⟨[.bor], (.pair .bool .unit), .lit⟩),
  (79, ⟨[.bor, .bor], (.pair (.tc Y_impl_Interval (.tc Y_impl_Interval (.tc .bool .unit))) .unit), .lit⟩),
  (89, ⟨[.bor], (.pair (.bx Y_spec_l20Rd) .unit), (.pair (.own (.pair (.ro [(10000000, 0)]) .lit)) .lit)⟩),
  (90, ⟨[.io, .bor], (.pair Y_impl_State (.tc (.bx Y_spec_l20Rd) .unit)), (.pair (.pair .lit (.pair (.own .lit) (.pair (.own .lit) .lit))) (.pair (.own (.pair (.ro [(10000000, 0)]) .lit)) .lit))⟩),
  (91, ⟨[.io, .bor], (.pair (.sl Y_impl_Entry) (.tc (.bx Y_spec_l20Rd) .unit)), (.pair (.own .lit) (.pair (.own (.pair (.ro [(10000000, 0)]) .lit)) .lit))⟩),
  (92, ⟨[.bor], (.pair .bool .unit), .lit⟩),
  (93, ⟨[.bor], (.pair (.sl Y_impl_Session) .unit), (.pair (.own .lit) .lit)⟩),
  (94, ⟨[.bor, .bor], (.pair (.tc (.int .i64) (.tc .bool .unit)) .unit), .lit⟩),
  (95, ⟨[.bor, .bor], (.pair (.tc (.int .i64) (.tc .bool .unit)) .unit), .lit⟩),
  (96, ⟨[.bor, .bor], (.pair .bool .unit), .lit⟩),
  (97, ⟨[.bor, .bor], (.pair (.tc (.sl Y_impl_Pair) (.tc (.int .i64) .unit)) .unit), (.pair (.pair (.own .lit) .lit) .lit)⟩),
  (98, ⟨[.bor, .bor], (.pair (.tc (.sl Y_impl_Session) (.tc .bool .unit)) .unit), (.pair (.pair (.own .lit) .lit) .lit)⟩),
  (99, ⟨[.bor], (.pair .bool .unit), .lit⟩),
  (100, ⟨[.bor], (.pair .bool .unit), .lit⟩),
  (101, ⟨[.bor], (.pair .bool .unit), .lit⟩),
  (102, ⟨[.bor, .bor], (.pair .bool .unit), .lit⟩),
  (103, ⟨[.bor], (.pair .bool .unit), .lit⟩),
  (104, ⟨[.bor, .bor], (.pair Y_impl_Session .unit), .lit⟩),
  (105, ⟨[.bor, .bor], (.pair (.tc (.sl Y_impl_Pair) (.tc (.int .i64) .unit)) .unit), (.pair (.pair (.own .lit) .lit) .lit)⟩),
  (106, ⟨[.bor, .bor], (.pair (.tc (.sl Y_impl_Session) (.tc .bool .unit)) .unit), (.pair (.pair (.own .lit) .lit) .lit)⟩),
  (107, ⟨[.bor, .bor], (.pair (.int .i64) .unit), .lit⟩),
  (108, ⟨[.bor], (.pair .str .unit), .lit⟩),
  (109, ⟨[.bor], (.pair .bool .unit), .lit⟩),
  (110, ⟨[.bor, .bor], (.pair (.int .i64) .unit), .lit⟩),
  (111, ⟨[.bor, .bor, .bor, .bor], (.pair (.sl Y_impl_Pair) .unit), (.pair (.own .lit) .lit)⟩),
  (112, ⟨[.bor], (.pair .bool .unit), .lit⟩),
  (124, ⟨[.io, .bor], (.pair Y_impl_Interval (.tc (.bx Y_spec_l20Rd) .unit)), (.pair .lit (.pair (.own (.pair (.ro [(10000000, 0)]) .lit)) .lit))⟩),
  (125, ⟨[.io, .bor], (.pair (.int .i64) (.tc (.bx Y_spec_l20Rd) .unit)), (.pair .lit (.pair (.own (.pair (.ro [(10000000, 0)]) .lit)) .lit))⟩),
  (126, ⟨[.bor, .bor], (.pair (.sl Y_impl_Pair) .unit), (.pair (.own .lit) .lit)⟩),
  (127, ⟨[.io, .bor], (.pair (.sl Y_impl_Pair) (.tc (.bx Y_spec_l20Rd) .unit)), (.pair (.own .lit) (.pair (.own (.pair (.ro [(10000000, 0)]) .lit)) .lit))⟩),
  (128, ⟨[.io, .bor], (.pair (.sl Y_impl_Session) (.tc (.bx Y_spec_l20Rd) .unit)), (.pair (.own .lit) (.pair (.own (.pair (.ro [(10000000, 0)]) .lit)) .lit))⟩),
  (129, ⟨[.io, .bor], (.pair .bool (.tc (.bx Y_spec_l20Rd) .unit)), (.pair .lit (.pair (.own (.pair (.ro [(10000000, 0)]) .lit)) .lit))⟩),
  (130, ⟨[.io, .bor], (.pair Y_impl_Entry (.tc (.bx Y_spec_l20Rd) .unit)), (.pair .lit (.pair (.own (.pair (.ro [(10000000, 0)]) .lit)) .lit))⟩),
  (131, ⟨[.io, .bor], (.pair Y_impl_Command (.tc (.bx Y_spec_l20Rd) .unit)), (.pair .lit (.pair (.own (.pair (.ro [(10000000, 0)]) .lit)) .lit))⟩),
  (132, ⟨[.bor], (.pair .bool .unit), .lit⟩),
  (133, ⟨[.bor, .bor, .bor], (.pair (.tc (.int .i64) (.tc .bool .unit)) .unit), .lit⟩),
  (134, ⟨[.bor, .bor], (.pair (.int .i64) .unit), .lit⟩),
  (135, ⟨[.bor, .bor], (.pair (.int .i64) .unit), .lit⟩),
  (136, ⟨[.bor, .bor, .bor], (.pair (.tc (.int .i64) (.tc .bool .unit)) .unit), .lit⟩),
  (137, ⟨[.bor, .bor], (.pair (.int .i64) .unit), .lit⟩),
  (138, ⟨[.bor, .bor], (.pair (.int .i64) .unit), .lit⟩),
  (139, ⟨[.bor, .bor, .bor, .bor], (.pair (.sl Y_impl_Session) .unit), (.pair (.own .lit) .lit)⟩),
  (140, ⟨[.bor], (.pair .bool .unit), .lit⟩),
  (141, ⟨[.bor, .bor], (.pair (.tc (.sl Y_impl_Pair) (.tc .bool .unit)) .unit), (.pair (.pair (.own .lit) .lit) .lit)⟩),
  (142, ⟨[.bor, .bor, .bor], (.pair (.tc (.sl Y_impl_Pair) (.tc .bool .unit)) .unit), (.pair (.pair (.own .lit) .lit) .lit)⟩),
  (143, ⟨[.bor, .bor], (.pair (.int .i64) .unit), .lit⟩),
  (144, ⟨[.bor], (.pair (.int .i64) .unit), .lit⟩),
  (145, ⟨[.io, .bor], (.pair .str (.tc (.bx Y_spec_l20Rd) .unit)), (.pair .lit (.pair (.own (.pair (.ro [(10000000, 0)]) .lit)) .lit))⟩),
  (146, ⟨[.bor, .bor, .bor], (.pair (.sl Y_impl_Pair) .unit), (.pair (.own .lit) .lit)⟩),
  (147, ⟨[.io, .bor], (.pair (.int .i64) (.tc (.bx Y_spec_l20Rd) .unit)), (.pair .lit (.pair (.own (.pair (.ro [(10000000, 0)]) .lit)) .lit))⟩),
  (148, ⟨[.bor], (.pair .str .unit), .lit⟩),
  (149, ⟨[.io, .bor], (.pair Y_impl_Session (.tc (.bx Y_spec_l20Rd) .unit)), (.pair .lit (.pair (.own (.pair (.ro [(10000000, 0)]) .lit)) .lit))⟩),
  (150, ⟨[.io, .bor], (.pair Y_impl_Command (.tc (.bx Y_spec_l20Rd) .unit)), (.pair .lit (.pair (.own (.pair (.ro [(10000000, 0)]) .lit)) .lit))⟩),
  (151, ⟨[.bor], (.pair .bool .unit), .lit⟩),
  (152, ⟨[.bor], (.pair .bool .unit), .lit⟩),
  (153, ⟨[.bor], (.pair (.int .i64) .unit), .lit⟩)]
def STl : List (Nat × List (Nat × List Nat)) := [(5, [(12, [3, 4, 5, 6, 8, 9, 10]), (16, [5, 6, 8, 9, 10, 13, 14, 15])]),
  (22, [(6, [5, 6, 21, 22, 23])]),
  (23, [(4, [0, 1, 5])]),
  (24, [(6, [1, 5, 6, 7])]),
  (25, [(6, [4, 6, 7, 22, 23, 24])]),
  (26, [(4, [1, 25, 26, 27])]),
  (28, [(5, [6, 20, 21, 22])]),
  (29, [(4, [0, 1, 5])]),
  (30, [(4, [0, 8, 9, 10]), (10, [0, 3, 4, 8, 9, 10])]),
  (55, [(4, [8, 9, 10])]),
  (59, [(4, [1, 3])]),
  (60, [(2, [0, 3])]),
  (62, [(15, [2, 3, 4, 6, 11]), (16, [2, 3, 4, 6, 11, 12])]),
  (65, [(4, [0, 8, 9, 10])]),
  (66, [(2, [0, 5, 6, 7])]),
  (78, [(4, [0, 3])]),
  (90, [(4, [0, 1, 4, 5]), (10, [0, 1, 4, 6])]),
  (91, [(3, [0, 1, 5, 6]), (8, [0, 1, 5, 6, 7]), (15, [0, 5])]),
  (100, [(4, [0, 3])]),
  (101, [(2, [0, 3])]),
  (104, [(2, [0, 1, 4, 5])]),
  (106, [(8, [0, 3, 6, 7, 8]), (13, [0, 3, 6, 7, 8])]),
  (107, [(2, [0, 1, 5])]),
  (127, [(3, [0, 1, 5, 6]), (9, [0, 1, 5, 9]), (13, [0, 1, 5])]),
  (128, [(3, [0, 1, 5, 6])]),
  (133, [(3, [0, 1, 2, 8, 9, 10])]),
  (136, [(3, [0, 1, 2, 8, 9, 10])]),
  (142, [(9, [0, 1, 2, 8, 9])]),
  (145, [(7, [0, 5, 6])]),
  (146, [(5, [0, 2, 4, 7, 8])]),
  (148, [(5, [0, 3, 4])])]
noncomputable instance : Cx := ⟨Try.prog, fun f => look f FTl, fun t => look t TBl, fun f => look f SGl, fun f r => (look f STl).bind (look r)⟩
def AllP {α : Type} (p : Nat → α → Prop) : List (Nat × α) → Prop
  | [] => True
  | x :: l => p x.1 x.2 ∧ AllP p l
theorem look_all {α : Type} {p : Nat → α → Prop} {k : Nat} {y : α} : ∀ {l : List (Nat × α)}, AllP p l → look k l = some y → p k y
  | x :: l, h, e => by
    simp only [look] at e
    cases b : Nat.beq x.1 k with
    | true => rw [b] at e; obtain rfl := Option.some.inj e; have := Nat.eq_of_beq_eq_true b; subst this; exact h.1
    | false => rw [b] at e; exact look_all h.2 e
theorem td3 : TD Try.prog (.int .i64) 3 := ⟨Try.underlying3, ⟨Try.t3, by kernel_rfl, by kernel_rfl, fun _ => ⟨.int .i64 0, by kernel_rfl, by kernel_rfl⟩⟩⟩
theorem td4 : TD Try.prog .bool 4 := ⟨Try.underlying4, ⟨Try.t4, by kernel_rfl, by kernel_rfl, fun _ => ⟨.bool false, by kernel_rfl, by kernel_rfl⟩⟩⟩
theorem td5 : TD Try.prog (.int .u8) 5 := ⟨Try.underlying5, ⟨Try.t5, by kernel_rfl, by kernel_rfl, fun _ => ⟨.int .u8 0, by kernel_rfl, by kernel_rfl⟩⟩⟩
theorem td9 : TD Try.prog .str 9 := ⟨Try.underlying9, ⟨Try.t9, by kernel_rfl, by kernel_rfl, fun _ => ⟨.string ⟨#[]⟩, by kernel_rfl, by kernel_rfl⟩⟩⟩
theorem td52 : TD Try.prog (.sl (.int .u8)) 52 := ⟨5, Try.underlying52, ⟨Try.t52, by kernel_rfl, by kernel_rfl, fun _ => ⟨.slice none 0 0, by kernel_rfl, by kernel_rfl⟩⟩, td5⟩
theorem td54 : TD Try.prog Y_impl_Interval 54 := ⟨_, Try.underlying54, ⟨Try.t54, by kernel_rfl, by kernel_rfl, fun _ => ⟨.agg #[.string ⟨#[]⟩, .string ⟨#[]⟩], by kernel_rfl, by kernel_rfl⟩⟩, ⟨rfl, by decide, td9, ⟨rfl, by decide, td9, trivial⟩⟩, by kernel_rfl, by kernel_rfl⟩
theorem td112 : TD Try.prog Y_impl_Pair 112 := ⟨_, Try.underlying112, ⟨Try.t112, by kernel_rfl, by kernel_rfl, fun _ => ⟨.agg #[.string ⟨#[]⟩, .int .i64 0], by kernel_rfl, by kernel_rfl⟩⟩, ⟨rfl, by decide, td9, ⟨rfl, by decide, td3, trivial⟩⟩, by kernel_rfl, by kernel_rfl⟩
theorem td55 : TD Try.prog (.sl Y_impl_Pair) 55 := ⟨112, Try.underlying55, ⟨Try.t55, by kernel_rfl, by kernel_rfl, fun _ => ⟨.slice none 0 0, by kernel_rfl, by kernel_rfl⟩⟩, td112⟩
theorem td140 : TD Try.prog Y_impl_Session 140 := ⟨_, Try.underlying140, ⟨Try.t140, by kernel_rfl, by kernel_rfl, fun _ => ⟨.agg #[.int .i64 0, .int .i64 0, .int .i64 0], by kernel_rfl, by kernel_rfl⟩⟩, ⟨rfl, by decide, td3, ⟨rfl, by decide, td3, ⟨rfl, by decide, td3, trivial⟩⟩⟩, by kernel_rfl, by kernel_rfl⟩
theorem td56 : TD Try.prog (.sl Y_impl_Session) 56 := ⟨140, Try.underlying56, ⟨Try.t56, by kernel_rfl, by kernel_rfl, fun _ => ⟨.slice none 0 0, by kernel_rfl, by kernel_rfl⟩⟩, td140⟩
theorem td58 : TD Try.prog Y_impl_State 58 := ⟨_, Try.underlying58, ⟨Try.t58, by kernel_rfl, by kernel_rfl, fun _ => ⟨.agg #[.string ⟨#[]⟩, .string ⟨#[]⟩, .slice none 0 0, .slice none 0 0, .bool false, .string ⟨#[]⟩], by kernel_rfl, by kernel_rfl⟩⟩, ⟨rfl, by decide, td54, ⟨rfl, by decide, td55, ⟨rfl, by decide, td56, ⟨rfl, by decide, td4, ⟨rfl, by decide, td9, trivial⟩⟩⟩⟩⟩, by kernel_rfl, by kernel_rfl⟩
theorem td102 : TD Try.prog Y_impl_Command 102 := ⟨_, Try.underlying102, ⟨Try.t102, by kernel_rfl, by kernel_rfl, fun _ => ⟨.agg #[.int .i64 0, .string ⟨#[]⟩, .int .i64 0, .int .i64 0], by kernel_rfl, by kernel_rfl⟩⟩, ⟨rfl, by decide, td3, ⟨rfl, by decide, td9, ⟨rfl, by decide, td3, ⟨rfl, by decide, td3, trivial⟩⟩⟩⟩, by kernel_rfl, by kernel_rfl⟩
theorem td104 : TD Try.prog Y_impl_Entry 104 := ⟨_, Try.underlying104, ⟨Try.t104, by kernel_rfl, by kernel_rfl, fun _ => ⟨.agg #[.int .i64 0, .int .i64 0, .int .i64 0, .string ⟨#[]⟩, .int .i64 0, .int .i64 0], by kernel_rfl, by kernel_rfl⟩⟩, ⟨rfl, by decide, td3, ⟨rfl, by decide, td3, ⟨rfl, by decide, td102, trivial⟩⟩⟩, by kernel_rfl, by kernel_rfl⟩
theorem td59 : TD Try.prog (.sl Y_impl_Entry) 59 := ⟨104, Try.underlying59, ⟨Try.t59, by kernel_rfl, by kernel_rfl, fun _ => ⟨.slice none 0 0, by kernel_rfl, by kernel_rfl⟩⟩, td104⟩
theorem td73 : TD Try.prog Y_impl_Change 73 := ⟨_, Try.underlying73, ⟨Try.t73, by kernel_rfl, by kernel_rfl, fun _ => ⟨.agg #[.int .i64 0, .string ⟨#[]⟩, .int .i64 0, .int .i64 0], by kernel_rfl, by kernel_rfl⟩⟩, ⟨rfl, by decide, td3, ⟨rfl, by decide, td9, ⟨rfl, by decide, td3, ⟨rfl, by decide, td3, trivial⟩⟩⟩⟩, by kernel_rfl, by kernel_rfl⟩
theorem td62 : TD Try.prog (.sl Y_impl_Change) 62 := ⟨73, Try.underlying62, ⟨Try.t62, by kernel_rfl, by kernel_rfl, fun _ => ⟨.slice none 0 0, by kernel_rfl, by kernel_rfl⟩⟩, td73⟩
theorem td65 : TD Try.prog (.sl (.int .i64)) 65 := ⟨3, Try.underlying65, ⟨Try.t65, by kernel_rfl, by kernel_rfl, fun _ => ⟨.slice none 0 0, by kernel_rfl, by kernel_rfl⟩⟩, td3⟩
theorem td133 : TD Try.prog (.bx Y_spec_l20Rd) 133 := ⟨161, Try.underlying133, ⟨Try.t133, by kernel_rfl, by kernel_rfl, fun h => by cases h⟩⟩
theorem td154 : TD Try.prog (.sl Y_impl_Interval) 154 := ⟨54, Try.underlying154, ⟨Try.t154, by kernel_rfl, by kernel_rfl, fun _ => ⟨.slice none 0 0, by kernel_rfl, by kernel_rfl⟩⟩, td54⟩
theorem td161 : TD Try.prog Y_spec_l20Rd 161 := ⟨_, Try.underlying161, ⟨Try.t161, by kernel_rfl, by kernel_rfl, fun _ => ⟨.agg #[.slice none 0 0, .int .i64 0], by kernel_rfl, by kernel_rfl⟩⟩, ⟨rfl, by decide, td52, ⟨rfl, by decide, td3, trivial⟩⟩, by kernel_rfl, by kernel_rfl⟩
theorem td182 : TD Try.prog (.sl Y_impl_Command) 182 := ⟨102, Try.underlying182, ⟨Try.t182, by kernel_rfl, by kernel_rfl, fun _ => ⟨.slice none 0 0, by kernel_rfl, by kernel_rfl⟩⟩, td102⟩
theorem td183 : TD Try.prog (.sl .str) 183 := ⟨9, Try.underlying183, ⟨Try.t183, by kernel_rfl, by kernel_rfl, fun _ => ⟨.slice none 0 0, by kernel_rfl, by kernel_rfl⟩⟩, td9⟩
theorem td184 : TD Try.prog (.int .u64) 184 := ⟨Try.underlying184, ⟨Try.t184, by kernel_rfl, by kernel_rfl, fun _ => ⟨.int .u64 0, by kernel_rfl, by kernel_rfl⟩⟩⟩
theorem tb_all : AllP (fun t (ti : TI) => TD Try.prog ti.ty t ∧ ∀ a, ti.ty = .sl a → ∃ e i, Try.prog.underlying t = some (.slice e) ∧ Try.prog.info? e = some i ∧ i.bytes = ti.eb) TBl := ⟨⟨td3, fun _ h => by cases h⟩, ⟨⟨td4, fun _ h => by cases h⟩, ⟨⟨td5, fun _ h => by cases h⟩, ⟨⟨td9, fun _ h => by cases h⟩, ⟨⟨td52, fun _ h => ⟨5, Try.t5, Try.underlying52, by kernel_rfl, by kernel_rfl⟩⟩, ⟨⟨td54, fun _ h => by cases h⟩, ⟨⟨td55, fun _ h => ⟨112, Try.t112, Try.underlying55, by kernel_rfl, by kernel_rfl⟩⟩, ⟨⟨td56, fun _ h => ⟨140, Try.t140, Try.underlying56, by kernel_rfl, by kernel_rfl⟩⟩, ⟨⟨td58, fun _ h => by cases h⟩, ⟨⟨td59, fun _ h => ⟨104, Try.t104, Try.underlying59, by kernel_rfl, by kernel_rfl⟩⟩, ⟨⟨td62, fun _ h => ⟨73, Try.t73, Try.underlying62, by kernel_rfl, by kernel_rfl⟩⟩, ⟨⟨td65, fun _ h => ⟨3, Try.t3, Try.underlying65, by kernel_rfl, by kernel_rfl⟩⟩, ⟨⟨td73, fun _ h => by cases h⟩, ⟨⟨td102, fun _ h => by cases h⟩, ⟨⟨td104, fun _ h => by cases h⟩, ⟨⟨td112, fun _ h => by cases h⟩, ⟨⟨td133, fun _ h => by cases h⟩, ⟨⟨td140, fun _ h => by cases h⟩, ⟨⟨td154, fun _ h => ⟨54, Try.t54, Try.underlying154, by kernel_rfl, by kernel_rfl⟩⟩, ⟨⟨td161, fun _ h => by cases h⟩, ⟨⟨td182, fun _ h => ⟨102, Try.t102, Try.underlying182, by kernel_rfl, by kernel_rfl⟩⟩, ⟨⟨td183, fun _ h => ⟨9, Try.t9, Try.underlying183, by kernel_rfl, by kernel_rfl⟩⟩, ⟨⟨td184, fun _ h => by cases h⟩, trivial⟩⟩⟩⟩⟩⟩⟩⟩⟩⟩⟩⟩⟩⟩⟩⟩⟩⟩⟩⟩⟩⟩⟩
theorem ft_all : AllP (fun f (fn : Func) => Try.prog.funcs[f]? = some fn ∧ (fn.name == "runtime.NumGoroutine") = false) FTl := ⟨⟨Try.func5, by kernel_rfl⟩, ⟨⟨Try.func21, by kernel_rfl⟩, ⟨⟨Try.func22, by kernel_rfl⟩, ⟨⟨Try.func23, by kernel_rfl⟩, ⟨⟨Try.func24, by kernel_rfl⟩, ⟨⟨Try.func25, by kernel_rfl⟩, ⟨⟨Try.func26, by kernel_rfl⟩, ⟨⟨Try.func27, by kernel_rfl⟩, ⟨⟨Try.func28, by kernel_rfl⟩, ⟨⟨Try.func29, by kernel_rfl⟩, ⟨⟨Try.func30, by kernel_rfl⟩, ⟨⟨Try.func54, by kernel_rfl⟩, ⟨⟨Try.func55, by kernel_rfl⟩, ⟨⟨Try.func56, by kernel_rfl⟩, ⟨⟨Try.func57, by kernel_rfl⟩, ⟨⟨Try.func58, by kernel_rfl⟩, ⟨⟨Try.func59, by kernel_rfl⟩, ⟨⟨Try.func60, by kernel_rfl⟩, ⟨⟨Try.func61, by kernel_rfl⟩, ⟨⟨Try.func62, by kernel_rfl⟩, ⟨⟨Try.func63, by kernel_rfl⟩, ⟨⟨Try.func64, by kernel_rfl⟩, ⟨⟨Try.func65, by kernel_rfl⟩, ⟨⟨Try.func66, by kernel_rfl⟩, ⟨⟨Try.func67, by kernel_rfl⟩, ⟨⟨Try.func68, by kernel_rfl⟩, ⟨⟨Try.func69, by kernel_rfl⟩, ⟨⟨Try.func70, by kernel_rfl⟩, ⟨⟨Try.func71, by kernel_rfl⟩, ⟨⟨Try.func72, by kernel_rfl⟩, ⟨⟨Try.func73, by kernel_rfl⟩, ⟨⟨Try.func74, by kernel_rfl⟩, ⟨⟨Try.func77, by kernel_rfl⟩, ⟨⟨Try.func78, by kernel_rfl⟩, ⟨⟨Try.func79, by kernel_rfl⟩, ⟨⟨Try.func89, by kernel_rfl⟩, ⟨⟨Try.func90, by kernel_rfl⟩, ⟨⟨Try.func91, by kernel_rfl⟩, ⟨⟨Try.func92, by kernel_rfl⟩, ⟨⟨Try.func93, by kernel_rfl⟩, ⟨⟨Try.func94, by kernel_rfl⟩, ⟨⟨Try.func95, by kernel_rfl⟩, ⟨⟨Try.func96, by kernel_rfl⟩, ⟨⟨Try.func97, by kernel_rfl⟩, ⟨⟨Try.func98, by kernel_rfl⟩, ⟨⟨Try.func99, by kernel_rfl⟩, ⟨⟨Try.func100, by kernel_rfl⟩, ⟨⟨Try.func101, by kernel_rfl⟩, ⟨⟨Try.func102, by kernel_rfl⟩, ⟨⟨Try.func103, by kernel_rfl⟩, ⟨⟨Try.func104, by kernel_rfl⟩, ⟨⟨Try.func105, by kernel_rfl⟩, ⟨⟨Try.func106, by kernel_rfl⟩, ⟨⟨Try.func107, by kernel_rfl⟩, ⟨⟨Try.func108, by kernel_rfl⟩, ⟨⟨Try.func109, by kernel_rfl⟩, ⟨⟨Try.func110, by kernel_rfl⟩, ⟨⟨Try.func111, by kernel_rfl⟩, ⟨⟨Try.func112, by kernel_rfl⟩, ⟨⟨Try.func124, by kernel_rfl⟩, ⟨⟨Try.func125, by kernel_rfl⟩, ⟨⟨Try.func126, by kernel_rfl⟩, ⟨⟨Try.func127, by kernel_rfl⟩, ⟨⟨Try.func128, by kernel_rfl⟩, ⟨⟨Try.func129, by kernel_rfl⟩, ⟨⟨Try.func130, by kernel_rfl⟩, ⟨⟨Try.func131, by kernel_rfl⟩, ⟨⟨Try.func132, by kernel_rfl⟩, ⟨⟨Try.func133, by kernel_rfl⟩, ⟨⟨Try.func134, by kernel_rfl⟩, ⟨⟨Try.func135, by kernel_rfl⟩, ⟨⟨Try.func136, by kernel_rfl⟩, ⟨⟨Try.func137, by kernel_rfl⟩, ⟨⟨Try.func138, by kernel_rfl⟩, ⟨⟨Try.func139, by kernel_rfl⟩, ⟨⟨Try.func140, by kernel_rfl⟩, ⟨⟨Try.func141, by kernel_rfl⟩, ⟨⟨Try.func142, by kernel_rfl⟩, ⟨⟨Try.func143, by kernel_rfl⟩, ⟨⟨Try.func144, by kernel_rfl⟩, ⟨⟨Try.func145, by kernel_rfl⟩, ⟨⟨Try.func146, by kernel_rfl⟩, ⟨⟨Try.func147, by kernel_rfl⟩, ⟨⟨Try.func148, by kernel_rfl⟩, ⟨⟨Try.func149, by kernel_rfl⟩, ⟨⟨Try.func150, by kernel_rfl⟩, ⟨⟨Try.func151, by kernel_rfl⟩, ⟨⟨Try.func152, by kernel_rfl⟩, ⟨⟨Try.func153, by kernel_rfl⟩, trivial⟩⟩⟩⟩⟩⟩⟩⟩⟩⟩⟩⟩⟩⟩⟩⟩⟩⟩⟩⟩⟩⟩⟩⟩⟩⟩⟩⟩⟩⟩⟩⟩⟩⟩⟩⟩⟩⟩⟩⟩⟩⟩⟩⟩⟩⟩⟩⟩⟩⟩⟩⟩⟩⟩⟩⟩⟩⟩⟩⟩⟩⟩⟩⟩⟩⟩⟩⟩⟩⟩⟩⟩⟩⟩⟩⟩⟩⟩⟩⟩⟩⟩⟩⟩⟩⟩⟩⟩⟩
theorem zz : ∀ i, tto i (tz i) = (TR i).dflt
  | 0 => rfl
  | 1 => rfl
  | 2 => rfl
  | 3 => rfl
  | 4 => rfl
  | 5 => rfl
  | 6 => rfl
  | 7 => rfl
  | 8 => rfl
  | 9 => rfl
  | 10 => rfl
  | 11 => rfl
  | 12 => rfl
  | 13 => rfl
  | 14 => rfl
  | 15 => rfl
  | 16 => rfl
  | 17 => rfl
  | 18 => rfl
  | 19 => rfl
  | 20 => rfl
  | 21 => rfl
  | 22 => rfl
  | 23 => rfl
  | 24 => rfl
  | 25 => rfl
  | 26 => rfl
  | 27 => rfl
  | 28 => rfl
  | 29 => rfl
  | 30 => rfl
  | 31 => rfl
  | 32 => rfl
  | 33 => rfl
  | 34 => rfl
  | 35 => rfl
  | 36 => rfl
  | 37 => rfl
  | 38 => rfl
  | _ + 39 => rfl
theorem good : Good := ⟨fun _ _ h => look_all ft_all h, fun _ _ h => look_all tb_all h, zz, by kernel_rfl⟩
def lit (l : List UInt8) : ByteArray := ⟨l.toArray⟩
def es : ByteArray := ⟨#[]⟩
/-- What is still to be done from a region on. -/
def conts : Code → List Item → Nat → Option (List Item)
  | .seq a b, k, r => match conts a (.code b :: k) r with
    | some x => some x
    | none => conts b k r
  | .cond _ x y, k, r => match conts x k r with
    | some x => some x
    | none => conts y k r
  | .block l b, k, r => conts b (.inBlock l :: k) r
  | .loop b, k, r => conts b (.inLoop b :: k) r
  | .region i ops draw, k, r => bif Nat.beq i r then some (.code (.region i ops draw) :: k) else none
  | _, _, _ => none
noncomputable def cont (f r : Nat) : List Item := match look f FTl with
  | some fn => match fn.body with
    | some c => (conts c [] r).getD []
    | none => []
  | none => []
end Go.Proofs.Ytkelnaphjekenaa.Ev
