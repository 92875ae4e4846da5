/- The program's types and functions as the evaluator's tables. No condition. -/
import Derived.Test.YtkelnaphjekenaaEngC
import Derived.Test.YtkelnaphjekenaaProg
set_option maxRecDepth 100000
namespace Go.Proofs.Ytkelnaphjekenaa.Ev
open Go.Proofs.Ytkelnaphjekenaa.Eng
/-- laws.Interval -/
structure laws_Interval where
  Low : ByteArray
  High : ByteArray
/-- laws.Route -/
structure laws_Route where
  Number : Int
  Span : laws_Interval
/-- laws.Plan -/
structure laws_Plan where
  Kind : Int
  First : Int
  Second : Int
  Key : ByteArray
  From : Int
  To : Int
  Step : Int
/-- laws.Master -/
structure laws_Master where
  Routes : (List laws_Route)
  Shards : Int
  Work : laws_Plan
  Turn : Int
/-- laws.Decision -/
structure laws_Decision where
  Kind : Int
  Begun : laws_Plan
/-- impl.Interval -/
structure impl_Interval where
  Low : ByteArray
  High : ByteArray
/-- impl.Route -/
structure impl_Route where
  Number : Int
  Span : impl_Interval
/-- impl.Plan -/
structure impl_Plan where
  Kind : Int
  First : Int
  Second : Int
  Key : ByteArray
  From : Int
  To : Int
  Step : Int
/-- impl.Master -/
structure impl_Master where
  Routes : (List impl_Route)
  Shards : Int
  Work : impl_Plan
  Turn : Int
/-- impl.Decision -/
structure impl_Decision where
  Kind : Int
  Begun : impl_Plan
abbrev R_laws_Interval : Ty := (.pair .str (.pair .str .unit))
abbrev Y_laws_Interval : Ty := .st 10 R_laws_Interval
abbrev R_laws_Route : Ty := (.pair (.int .i64) (.pair Y_laws_Interval .unit))
abbrev Y_laws_Route : Ty := .st 9 R_laws_Route
abbrev R_laws_Plan : Ty := (.pair (.int .i64) (.pair (.int .i64) (.pair (.int .i64) (.pair .str (.pair (.int .i64) (.pair (.int .i64) (.pair (.int .i64) .unit)))))))
abbrev Y_laws_Plan : Ty := .st 12 R_laws_Plan
abbrev R_laws_Master : Ty := (.pair (.sl Y_laws_Route) (.pair (.int .i64) (.pair Y_laws_Plan (.pair (.int .i64) .unit))))
abbrev Y_laws_Master : Ty := .st 14 R_laws_Master
abbrev R_laws_Decision : Ty := (.pair (.int .i64) (.pair Y_laws_Plan .unit))
abbrev Y_laws_Decision : Ty := .st 16 R_laws_Decision
abbrev R_impl_Interval : Ty := (.pair .str (.pair .str .unit))
abbrev Y_impl_Interval : Ty := .st 18 R_impl_Interval
abbrev R_impl_Route : Ty := (.pair (.int .i64) (.pair Y_impl_Interval .unit))
abbrev Y_impl_Route : Ty := .st 17 R_impl_Route
abbrev R_impl_Plan : Ty := (.pair (.int .i64) (.pair (.int .i64) (.pair (.int .i64) (.pair .str (.pair (.int .i64) (.pair (.int .i64) (.pair (.int .i64) .unit)))))))
abbrev Y_impl_Plan : Ty := .st 19 R_impl_Plan
abbrev R_impl_Master : Ty := (.pair (.sl Y_impl_Route) (.pair (.int .i64) (.pair Y_impl_Plan (.pair (.int .i64) .unit))))
abbrev Y_impl_Master : Ty := .st 21 R_impl_Master
abbrev R_impl_Decision : Ty := (.pair (.int .i64) (.pair Y_impl_Plan .unit))
abbrev Y_impl_Decision : Ty := .st 23 R_impl_Decision
def TT : Nat → Type
  | 0 => Unit
  | 1 => Unit
  | 2 => Unit
  | 3 => Unit
  | 4 => Unit
  | 5 => Unit
  | 6 => Unit
  | 7 => Unit
  | 8 => Unit
  | 9 => laws_Route
  | 10 => laws_Interval
  | 11 => Unit
  | 12 => laws_Plan
  | 13 => Unit
  | 14 => laws_Master
  | 15 => Unit
  | 16 => laws_Decision
  | 17 => impl_Route
  | 18 => impl_Interval
  | 19 => impl_Plan
  | 20 => Unit
  | 21 => impl_Master
  | 22 => Unit
  | 23 => impl_Decision
  | _ + 24 => Unit
def TR : Nat → Ty
  | 0 => .unit
  | 1 => .unit
  | 2 => .unit
  | 3 => .unit
  | 4 => .unit
  | 5 => .unit
  | 6 => .unit
  | 7 => .unit
  | 8 => .unit
  | 9 => R_laws_Route
  | 10 => R_laws_Interval
  | 11 => .unit
  | 12 => R_laws_Plan
  | 13 => .unit
  | 14 => R_laws_Master
  | 15 => .unit
  | 16 => R_laws_Decision
  | 17 => R_impl_Route
  | 18 => R_impl_Interval
  | 19 => R_impl_Plan
  | 20 => .unit
  | 21 => R_impl_Master
  | 22 => .unit
  | 23 => R_impl_Decision
  | _ + 24 => .unit
def tto : ∀ i, TT i → (TR i).den TT
  | 0 => fun _ => ()
  | 1 => fun _ => ()
  | 2 => fun _ => ()
  | 3 => fun _ => ()
  | 4 => fun _ => ()
  | 5 => fun _ => ()
  | 6 => fun _ => ()
  | 7 => fun _ => ()
  | 8 => fun _ => ()
  | 9 => fun x => (x.Number, x.Span, ())
  | 10 => fun x => (x.Low, x.High, ())
  | 11 => fun _ => ()
  | 12 => fun x => (x.Kind, x.First, x.Second, x.Key, x.From, x.To, x.Step, ())
  | 13 => fun _ => ()
  | 14 => fun x => (x.Routes, x.Shards, x.Work, x.Turn, ())
  | 15 => fun _ => ()
  | 16 => fun x => (x.Kind, x.Begun, ())
  | 17 => fun x => (x.Number, x.Span, ())
  | 18 => fun x => (x.Low, x.High, ())
  | 19 => fun x => (x.Kind, x.First, x.Second, x.Key, x.From, x.To, x.Step, ())
  | 20 => fun _ => ()
  | 21 => fun x => (x.Routes, x.Shards, x.Work, x.Turn, ())
  | 22 => fun _ => ()
  | 23 => fun x => (x.Kind, x.Begun, ())
  | _ + 24 => fun _ => ()
def tof : ∀ i, (TR i).den TT → TT i
  | 0 => fun _ => ()
  | 1 => fun _ => ()
  | 2 => fun _ => ()
  | 3 => fun _ => ()
  | 4 => fun _ => ()
  | 5 => fun _ => ()
  | 6 => fun _ => ()
  | 7 => fun _ => ()
  | 8 => fun _ => ()
  | 9 => fun x => ⟨x.1, x.2.1⟩
  | 10 => fun x => ⟨x.1, x.2.1⟩
  | 11 => fun _ => ()
  | 12 => fun x => ⟨x.1, x.2.1, x.2.2.1, x.2.2.2.1, x.2.2.2.2.1, x.2.2.2.2.2.1, x.2.2.2.2.2.2.1⟩
  | 13 => fun _ => ()
  | 14 => fun x => ⟨x.1, x.2.1, x.2.2.1, x.2.2.2.1⟩
  | 15 => fun _ => ()
  | 16 => fun x => ⟨x.1, x.2.1⟩
  | 17 => fun x => ⟨x.1, x.2.1⟩
  | 18 => fun x => ⟨x.1, x.2.1⟩
  | 19 => fun x => ⟨x.1, x.2.1, x.2.2.1, x.2.2.2.1, x.2.2.2.2.1, x.2.2.2.2.2.1, x.2.2.2.2.2.2.1⟩
  | 20 => fun _ => ()
  | 21 => fun x => ⟨x.1, x.2.1, x.2.2.1, x.2.2.2.1⟩
  | 22 => fun _ => ()
  | 23 => fun x => ⟨x.1, x.2.1⟩
  | _ + 24 => fun _ => ()
def z_laws_Interval : laws_Interval := ⟨⟨#[]⟩, ⟨#[]⟩⟩
def z_laws_Route : laws_Route := ⟨(0 : Int), z_laws_Interval⟩
def z_laws_Plan : laws_Plan := ⟨(0 : Int), (0 : Int), (0 : Int), ⟨#[]⟩, (0 : Int), (0 : Int), (0 : Int)⟩
def z_laws_Master : laws_Master := ⟨[], (0 : Int), z_laws_Plan, (0 : Int)⟩
def z_laws_Decision : laws_Decision := ⟨(0 : Int), z_laws_Plan⟩
def z_impl_Interval : impl_Interval := ⟨⟨#[]⟩, ⟨#[]⟩⟩
def z_impl_Route : impl_Route := ⟨(0 : Int), z_impl_Interval⟩
def z_impl_Plan : impl_Plan := ⟨(0 : Int), (0 : Int), (0 : Int), ⟨#[]⟩, (0 : Int), (0 : Int), (0 : Int)⟩
def z_impl_Master : impl_Master := ⟨[], (0 : Int), z_impl_Plan, (0 : Int)⟩
def z_impl_Decision : impl_Decision := ⟨(0 : Int), z_impl_Plan⟩
def tz : ∀ i, TT i
  | 0 => ()
  | 1 => ()
  | 2 => ()
  | 3 => ()
  | 4 => ()
  | 5 => ()
  | 6 => ()
  | 7 => ()
  | 8 => ()
  | 9 => z_laws_Route
  | 10 => z_laws_Interval
  | 11 => ()
  | 12 => z_laws_Plan
  | 13 => ()
  | 14 => z_laws_Master
  | 15 => ()
  | 16 => z_laws_Decision
  | 17 => z_impl_Route
  | 18 => z_impl_Interval
  | 19 => z_impl_Plan
  | 20 => ()
  | 21 => z_impl_Master
  | 22 => ()
  | 23 => z_impl_Decision
  | _ + 24 => ()
theorem t1 : ∀ i (x : (TR i).den TT), tto i (tof i x) = x
  | 0 => fun _ => rfl
  | 1 => fun _ => rfl
  | 2 => fun _ => rfl
  | 3 => fun _ => rfl
  | 4 => fun _ => rfl
  | 5 => fun _ => rfl
  | 6 => fun _ => rfl
  | 7 => fun _ => rfl
  | 8 => fun _ => rfl
  | 9 => fun _ => rfl
  | 10 => fun _ => rfl
  | 11 => fun _ => rfl
  | 12 => fun _ => rfl
  | 13 => fun _ => rfl
  | 14 => fun _ => rfl
  | 15 => fun _ => rfl
  | 16 => fun _ => rfl
  | 17 => fun _ => rfl
  | 18 => fun _ => rfl
  | 19 => fun _ => rfl
  | 20 => fun _ => rfl
  | 21 => fun _ => rfl
  | 22 => fun _ => rfl
  | 23 => fun _ => rfl
  | _ + 24 => fun _ => rfl
theorem t2 : ∀ i (x : TT i), tof i (tto i x) = x
  | 0 => fun _ => rfl
  | 1 => fun _ => rfl
  | 2 => fun _ => rfl
  | 3 => fun _ => rfl
  | 4 => fun _ => rfl
  | 5 => fun _ => rfl
  | 6 => fun _ => rfl
  | 7 => fun _ => rfl
  | 8 => fun _ => rfl
  | 9 => fun _ => rfl
  | 10 => fun _ => rfl
  | 11 => fun _ => rfl
  | 12 => fun _ => rfl
  | 13 => fun _ => rfl
  | 14 => fun _ => rfl
  | 15 => fun _ => rfl
  | 16 => fun _ => rfl
  | 17 => fun _ => rfl
  | 18 => fun _ => rfl
  | 19 => fun _ => rfl
  | 20 => fun _ => rfl
  | 21 => fun _ => rfl
  | 22 => fun _ => rfl
  | 23 => fun _ => rfl
  | _ + 24 => fun _ => rfl
instance : Tys := ⟨TT, TR, tto, tof, tz, t1, t2⟩
def look {α : Type} (k : Nat) : List (Nat × α) → Option α
  | [] => none
  | x :: l => bif Nat.beq x.1 k then some x.2 else look k l
noncomputable def FTl : List (Nat × Func) := [(3, Try.f3), (4, Try.f4), (6, Try.f6), (7, Try.f7), (8, Try.f8), (9, Try.f9), (10, Try.f10), (11, Try.f11), (12, Try.f12), (13, Try.f13), (14, Try.f14), (15, Try.f15), (16, Try.f16), (17, Try.f17), (18, Try.f18), (19, Try.f19), (20, Try.f20), (31, Try.f31), (32, Try.f32), (33, Try.f33), (34, Try.f34), (35, Try.f35), (36, Try.f36), (37, Try.f37), (38, Try.f38), (39, Try.f39), (40, Try.f40), (41, Try.f41), (42, Try.f42), (43, Try.f43), (44, Try.f44), (45, Try.f45), (46, Try.f46), (47, Try.f47), (48, Try.f48), (49, Try.f49), (50, Try.f50), (51, Try.f51), (52, Try.f52), (53, Try.f53), (64, Try.f64), (68, Try.f68), (73, Try.f73), (75, Try.f75), (76, Try.f76), (77, Try.f77), (78, Try.f78), (79, Try.f79), (80, Try.f80), (81, Try.f81), (82, Try.f82), (83, Try.f83), (84, Try.f84), (85, Try.f85), (86, Try.f86), (87, Try.f87), (88, Try.f88), (99, Try.f99), (108, Try.f108), (112, Try.f112), (113, Try.f113), (114, Try.f114), (115, Try.f115), (116, Try.f116), (117, Try.f117), (118, Try.f118), (119, Try.f119), (120, Try.f120), (121, Try.f121), (122, Try.f122), (123, Try.f123)]
def TBl : List (Nat × TI) := [(3, ⟨(.int .i64), 0⟩), (4, ⟨.bool, 0⟩), (5, ⟨(.int .u8), 0⟩), (9, ⟨.str, 0⟩), (22, ⟨(.sl Y_laws_Route), 40⟩), (24, ⟨Y_laws_Plan, 0⟩), (26, ⟨Y_laws_Master, 0⟩), (28, ⟨Y_laws_Decision, 0⟩), (31, ⟨(.sl Y_impl_Route), 40⟩), (32, ⟨Y_impl_Plan, 0⟩), (34, ⟨Y_impl_Master, 0⟩), (39, ⟨Y_impl_Decision, 0⟩), (44, ⟨(.sl Y_laws_Decision), 72⟩), (47, ⟨(.sl Y_impl_Decision), 72⟩), (52, ⟨(.sl (.int .u8)), 1⟩), (54, ⟨Y_impl_Interval, 0⟩), (87, ⟨Y_impl_Route, 0⟩), (92, ⟨(.bx Y_impl_Master), 0⟩), (123, ⟨Y_laws_Interval, 0⟩), (125, ⟨Y_laws_Route, 0⟩), (154, ⟨(.sl Y_impl_Interval), 32⟩)]
def SGl : List (Nat × Sig) := [(3, ⟨[.bor, .bor], (.pair .bool .unit), .lit⟩),
  (4, ⟨[.bor], (.pair .bool .unit), .lit⟩),
  (6, ⟨[.bor, .bor], (.pair (.int .i64) .unit), .lit⟩),
  (7, ⟨[.bor, .bor], (.pair (.int .i64) .unit), .lit⟩),
  (8, ⟨[.bor, .bor], (.pair (.tc Y_impl_Master (.tc .bool .unit)) .unit), (.pair (.pair (.pair (.own .lit) .lit) .lit) .lit)⟩),
  (9, ⟨[.bor], (.pair Y_impl_Master .unit), (.pair (.pair (.own .lit) .lit) .lit)⟩),
  (10, ⟨[.bor], (.pair Y_impl_Decision .unit), .lit⟩),
  (11, ⟨[.bor, .bor], (.pair (.tc Y_impl_Master (.tc .bool .unit)) .unit), (.pair (.pair (.pair (.own .lit) .lit) .lit) .lit)⟩),
  (12, ⟨[.bor, .bor], (.pair .bool .unit), .lit⟩),
  (13, ⟨[.io, .bor], (.pair (.int .i64) (.tc Y_impl_Master .unit)), (.pair .lit (.pair (.pair (.own .lit) .lit) .lit))⟩),
  (14, ⟨[.bor, .bor], (.pair (.int .i64) .unit), .lit⟩),
  (15, ⟨[.bor, .bor], (.pair (.int .i64) .unit), .lit⟩),
  (16, ⟨[.bor], (.pair (.tc Y_impl_Master (.tc .bool .unit)) .unit), (.pair (.pair (.pair (.own .lit) .lit) .lit) .lit)⟩),
  (17, ⟨[.bor], (.pair (.sl Y_impl_Decision) .unit), (.pair (.own .lit) .lit)⟩),
  (18, ⟨[.bor], (.pair (.tc Y_impl_Master (.tc .bool .unit)) .unit), (.pair (.pair (.pair (.own .lit) .lit) .lit) .lit)⟩),
  (19, ⟨[.bor, .bor], (.pair .bool .unit), .lit⟩),
  (20, ⟨[.io, .bor], (.pair (.int .i64) (.tc (.sl Y_impl_Decision) .unit)), (.pair .lit (.pair (.own .lit) .lit))⟩),
  (31, ⟨[.bor, .bor], (.pair (.int .i64) .unit), .lit⟩),
  (32, ⟨[.bor, .bor], (.pair (.int .i64) .unit), .lit⟩),
  (33, ⟨[.bor], (.pair .bool .unit), .lit⟩),
  (34, ⟨[.bor], (.pair .bool .unit), .lit⟩),
  (35, ⟨[.bor, .bor], (.pair .bool .unit), .lit⟩),
  (36, ⟨[.bor, .bor, .bor, .bor, .bor], (.pair (.tc (.sl Y_impl_Route) (.tc .bool .unit)) .unit), (.pair (.pair (.own .lit) .lit) .lit)⟩),
  (37, ⟨[.bor, .bor], (.pair (.int .i64) .unit), .lit⟩),
  (38, ⟨[.bor, .bor, .bor], (.pair (.tc (.sl Y_impl_Route) (.tc .bool .unit)) .unit), (.pair (.pair (.own .lit) .lit) .lit)⟩),
  (39, ⟨[.bor], (.pair (.sl Y_impl_Route) .unit), (.pair (.own .lit) .lit)⟩),
  (40, ⟨[.bor], (.pair Y_impl_Plan .unit), .lit⟩),
  (41, ⟨[.bor], (.pair .bool .unit), .lit⟩),
  (42, ⟨[.bor], (.pair Y_impl_Master .unit), (.pair (.pair (.own .lit) .lit) .lit)⟩),
  (43, ⟨[.io, .bor], (.pair .bool (.tc (.bx Y_impl_Master) .unit)), (.pair .lit (.pair (.own (.pair (.own .lit) .lit)) .lit))⟩),
  (44, ⟨[.io], (.pair .bool (.tc (.bx Y_impl_Master) .unit)), (.pair .lit (.pair (.own (.pair (.own .lit) .lit)) .lit))⟩),
  (45, ⟨[.io], (.pair .bool (.tc (.bx Y_impl_Master) .unit)), (.pair .lit (.pair (.own (.pair (.own .lit) .lit)) .lit))⟩),
  (46, ⟨[.bor, .bor], (.pair .bool .unit), .lit⟩),
  (47, ⟨[.bor, .bor], (.pair .bool .unit), .lit⟩),
  (48, ⟨[.io, .bor], (.pair (.int .i64) (.tc (.sl Y_impl_Route) .unit)), (.pair .lit (.pair (.own .lit) .lit))⟩),
  (49, ⟨[.bor, .bor], (.pair (.int .i64) .unit), .lit⟩),
  (50, ⟨[], (.pair Y_impl_Master .unit), (.pair (.pair (.own .lit) .lit) .lit)⟩),
  (51, ⟨[], (.pair Y_impl_Master .unit), (.pair (.pair (.own .lit) .lit) .lit)⟩),
  (52, ⟨[.bor, .bor], (.pair .bool .unit), .lit⟩),
  (53, ⟨[.bor], (.pair .str .unit), .lit⟩),
  (64, ⟨[.bor], (.pair .bool .unit), .lit⟩),
  (68, ⟨[.bor, .bor], (.pair (.tc Y_impl_Interval (.tc Y_impl_Interval (.tc .bool .unit))) .unit), .lit⟩),
  (73, ⟨[.bor], (.pair .bool .unit), .lit⟩),
  (75, ⟨[.bor, .bor], (.pair (.int .i64) .unit), .lit⟩),
  (76, ⟨[.bor], (.pair .bool .unit), .lit⟩),
  (77, ⟨[.bor, .bor, .bor], (.pair .bool .unit), .lit⟩),
  (78, ⟨[.bor], (.pair .bool .unit), .lit⟩),
  (79, ⟨[.bor, .bor], (.pair (.tc Y_impl_Interval (.tc Y_impl_Interval (.tc .bool .unit))) .unit), .lit⟩),
  (80, ⟨[.bor, .bor], (.pair (.tc Y_impl_Interval (.tc .bool .unit)) .unit), .lit⟩),
  (81, ⟨[.bor], (.pair Y_impl_Route .unit), .lit⟩),
  (82, ⟨[.bor], (.pair .bool .unit), .lit⟩),
  (83, ⟨[.bor], (.pair .bool .unit), .lit⟩),
  (84, ⟨[.bor], (.pair (.sl Y_impl_Route) .unit), (.pair (.own .lit) .lit)⟩),
  (85, ⟨[.bor, .bor, .bor, .bor, .bor], (.pair (.tc (.sl Y_impl_Route) (.tc .bool .unit)) .unit), (.pair (.pair (.own .lit) .lit) .lit)⟩),
  (86, ⟨[.bor, .bor], (.pair (.int .i64) .unit), .lit⟩),
  (87, ⟨[.bor, .bor, .bor], (.pair (.tc (.sl Y_impl_Route) (.tc .bool .unit)) .unit), (.pair (.pair (.own .lit) .lit) .lit)⟩),
  (88, ⟨[.bor, .bor], (.pair .bool .unit), .lit⟩),
  (99, ⟨[.bor], (.pair .bool .unit), .lit⟩),
  (108, ⟨[.bor], (.pair .str .unit), .lit⟩),
  (112, ⟨[.bor], (.pair .bool .unit), .lit⟩),
  (113, ⟨[.bor, .bor], (.pair (.int .i64) .unit), .lit⟩),
  (114, ⟨[.bor], (.pair .bool .unit), .lit⟩),
  (115, ⟨[.bor], (.pair Y_impl_Interval .unit), .lit⟩),
  (116, ⟨[.bor], (.pair .bool .unit), .lit⟩),
  (117, ⟨[.bor], (.pair (.sl Y_impl_Interval) .unit), (.pair (.own .lit) .lit)⟩),
  (118, ⟨[.bor], (.pair .bool .unit), .lit⟩),
  (119, ⟨[.bor], (.pair .bool .unit), .lit⟩),
  (120, ⟨[.bor], (.pair .bool .unit), .lit⟩),
  (121, ⟨[.bor, .bor, .bor, .bor], (.pair (.sl Y_impl_Route) .unit), (.pair (.own .lit) .lit)⟩),
  (122, ⟨[.bor, .bor], (.pair (.tc Y_impl_Interval (.tc .bool .unit)) .unit), .lit⟩),
  (123, ⟨[.bor, .bor], (.pair .bool .unit), .lit⟩)]
def STl : List (Nat × List (Nat × List Nat)) := [(8, [(10, [2, 3, 4, 6, 7, 9]), (11, [2, 4, 6, 7, 9]), (17, [2, 3, 4, 6, 7, 8, 9]), (23, [3, 4, 6, 7, 8, 9]), (26, [3, 4, 6, 7, 8, 9]), (28, [4, 6, 7, 9])]),
  (11, [(17, [2, 3, 4, 6, 7])]),
  (15, [(5, [0, 1, 5])]),
  (16, [(5, [0, 2, 4, 5])]),
  (17, [(3, [0, 3, 4])]),
  (18, [(5, [2, 4, 13, 14, 15])]),
  (19, [(4, [0, 1, 5])]),
  (20, [(2, [0, 1, 5]), (9, [0, 1, 5]), (13, [0, 1, 5]), (17, [0, 1, 5])]),
  (31, [(5, [0, 1, 5])]),
  (33, [(4, [1, 3])]),
  (37, [(2, [0, 1, 5])]),
  (39, [(3, [0, 3, 4])]),
  (41, [(4, [1, 30, 31, 32])]),
  (46, [(4, [0, 1, 5])]),
  (48, [(2, [0, 1, 5])]),
  (49, [(2, [0, 1, 5])]),
  (53, [(4, [0, 3])]),
  (76, [(3, [0, 3, 4]), (8, [0, 3, 4, 5])]),
  (78, [(4, [0, 3])]),
  (86, [(2, [1, 7, 8, 9])]),
  (114, [(4, [0, 3])]),
  (116, [(5, [0, 32, 33, 34])]),
  (117, [(3, [3, 6, 7, 8])]),
  (118, [(2, [0, 5, 6, 7])])]
noncomputable instance : Cx := ⟨Try.prog, fun f => look f FTl, fun t => look t TBl, fun f => look f SGl, fun f r => (look f STl).bind (look r)⟩
def AllP {α : Type} (p : Nat → α → Prop) : List (Nat × α) → Prop
  | [] => True
  | x :: l => p x.1 x.2 ∧ AllP p l
theorem look_all {α : Type} {p : Nat → α → Prop} {k : Nat} {y : α} : ∀ {l : List (Nat × α)}, AllP p l → look k l = some y → p k y
  | x :: l, h, e => by
    simp only [look] at e
    cases b : Nat.beq x.1 k with
    | true => rw [b] at e; obtain rfl := Option.some.inj e; have := Nat.eq_of_beq_eq_true b; subst this; exact h.1
    | false => rw [b] at e; exact look_all h.2 e
theorem td3 : TD Try.prog (.int .i64) 3 := ⟨Try.underlying3, ⟨Try.t3, by kernel_rfl, by kernel_rfl, fun _ => ⟨.int .i64 0, by kernel_rfl, by kernel_rfl⟩⟩⟩
theorem td4 : TD Try.prog .bool 4 := ⟨Try.underlying4, ⟨Try.t4, by kernel_rfl, by kernel_rfl, fun _ => ⟨.bool false, by kernel_rfl, by kernel_rfl⟩⟩⟩
theorem td5 : TD Try.prog (.int .u8) 5 := ⟨Try.underlying5, ⟨Try.t5, by kernel_rfl, by kernel_rfl, fun _ => ⟨.int .u8 0, by kernel_rfl, by kernel_rfl⟩⟩⟩
theorem td9 : TD Try.prog .str 9 := ⟨Try.underlying9, ⟨Try.t9, by kernel_rfl, by kernel_rfl, fun _ => ⟨.string ⟨#[]⟩, by kernel_rfl, by kernel_rfl⟩⟩⟩
theorem td123 : TD Try.prog Y_laws_Interval 123 := ⟨_, Try.underlying123, ⟨Try.t123, by kernel_rfl, by kernel_rfl, fun _ => ⟨.agg #[.string ⟨#[]⟩, .string ⟨#[]⟩], by kernel_rfl, by kernel_rfl⟩⟩, ⟨rfl, by decide, td9, ⟨rfl, by decide, td9, trivial⟩⟩, by kernel_rfl, by kernel_rfl⟩
theorem td125 : TD Try.prog Y_laws_Route 125 := ⟨_, Try.underlying125, ⟨Try.t125, by kernel_rfl, by kernel_rfl, fun _ => ⟨.agg #[.int .i64 0, .string ⟨#[]⟩, .string ⟨#[]⟩], by kernel_rfl, by kernel_rfl⟩⟩, ⟨rfl, by decide, td3, ⟨rfl, by decide, td123, trivial⟩⟩, by kernel_rfl, by kernel_rfl⟩
theorem td22 : TD Try.prog (.sl Y_laws_Route) 22 := ⟨125, Try.underlying22, ⟨Try.t22, by kernel_rfl, by kernel_rfl, fun _ => ⟨.slice none 0 0, by kernel_rfl, by kernel_rfl⟩⟩, td125⟩
theorem td24 : TD Try.prog Y_laws_Plan 24 := ⟨_, Try.underlying24, ⟨Try.t24, by kernel_rfl, by kernel_rfl, fun _ => ⟨.agg #[.int .i64 0, .int .i64 0, .int .i64 0, .string ⟨#[]⟩, .int .i64 0, .int .i64 0, .int .i64 0], by kernel_rfl, by kernel_rfl⟩⟩, ⟨rfl, by decide, td3, ⟨rfl, by decide, td3, ⟨rfl, by decide, td3, ⟨rfl, by decide, td9, ⟨rfl, by decide, td3, ⟨rfl, by decide, td3, ⟨rfl, by decide, td3, trivial⟩⟩⟩⟩⟩⟩⟩, by kernel_rfl, by kernel_rfl⟩
theorem td26 : TD Try.prog Y_laws_Master 26 := ⟨_, Try.underlying26, ⟨Try.t26, by kernel_rfl, by kernel_rfl, fun _ => ⟨.agg #[.slice none 0 0, .int .i64 0, .int .i64 0, .int .i64 0, .int .i64 0, .string ⟨#[]⟩, .int .i64 0, .int .i64 0, .int .i64 0, .int .i64 0], by kernel_rfl, by kernel_rfl⟩⟩, ⟨rfl, by decide, td22, ⟨rfl, by decide, td3, ⟨rfl, by decide, td24, ⟨rfl, by decide, td3, trivial⟩⟩⟩⟩, by kernel_rfl, by kernel_rfl⟩
theorem td28 : TD Try.prog Y_laws_Decision 28 := ⟨_, Try.underlying28, ⟨Try.t28, by kernel_rfl, by kernel_rfl, fun _ => ⟨.agg #[.int .i64 0, .int .i64 0, .int .i64 0, .int .i64 0, .string ⟨#[]⟩, .int .i64 0, .int .i64 0, .int .i64 0], by kernel_rfl, by kernel_rfl⟩⟩, ⟨rfl, by decide, td3, ⟨rfl, by decide, td24, trivial⟩⟩, by kernel_rfl, by kernel_rfl⟩
theorem td54 : TD Try.prog Y_impl_Interval 54 := ⟨_, Try.underlying54, ⟨Try.t54, by kernel_rfl, by kernel_rfl, fun _ => ⟨.agg #[.string ⟨#[]⟩, .string ⟨#[]⟩], by kernel_rfl, by kernel_rfl⟩⟩, ⟨rfl, by decide, td9, ⟨rfl, by decide, td9, trivial⟩⟩, by kernel_rfl, by kernel_rfl⟩
theorem td87 : TD Try.prog Y_impl_Route 87 := ⟨_, Try.underlying87, ⟨Try.t87, by kernel_rfl, by kernel_rfl, fun _ => ⟨.agg #[.int .i64 0, .string ⟨#[]⟩, .string ⟨#[]⟩], by kernel_rfl, by kernel_rfl⟩⟩, ⟨rfl, by decide, td3, ⟨rfl, by decide, td54, trivial⟩⟩, by kernel_rfl, by kernel_rfl⟩
theorem td31 : TD Try.prog (.sl Y_impl_Route) 31 := ⟨87, Try.underlying31, ⟨Try.t31, by kernel_rfl, by kernel_rfl, fun _ => ⟨.slice none 0 0, by kernel_rfl, by kernel_rfl⟩⟩, td87⟩
theorem td32 : TD Try.prog Y_impl_Plan 32 := ⟨_, Try.underlying32, ⟨Try.t32, by kernel_rfl, by kernel_rfl, fun _ => ⟨.agg #[.int .i64 0, .int .i64 0, .int .i64 0, .string ⟨#[]⟩, .int .i64 0, .int .i64 0, .int .i64 0], by kernel_rfl, by kernel_rfl⟩⟩, ⟨rfl, by decide, td3, ⟨rfl, by decide, td3, ⟨rfl, by decide, td3, ⟨rfl, by decide, td9, ⟨rfl, by decide, td3, ⟨rfl, by decide, td3, ⟨rfl, by decide, td3, trivial⟩⟩⟩⟩⟩⟩⟩, by kernel_rfl, by kernel_rfl⟩
theorem td34 : TD Try.prog Y_impl_Master 34 := ⟨_, Try.underlying34, ⟨Try.t34, by kernel_rfl, by kernel_rfl, fun _ => ⟨.agg #[.slice none 0 0, .int .i64 0, .int .i64 0, .int .i64 0, .int .i64 0, .string ⟨#[]⟩, .int .i64 0, .int .i64 0, .int .i64 0, .int .i64 0], by kernel_rfl, by kernel_rfl⟩⟩, ⟨rfl, by decide, td31, ⟨rfl, by decide, td3, ⟨rfl, by decide, td32, ⟨rfl, by decide, td3, trivial⟩⟩⟩⟩, by kernel_rfl, by kernel_rfl⟩
theorem td39 : TD Try.prog Y_impl_Decision 39 := ⟨_, Try.underlying39, ⟨Try.t39, by kernel_rfl, by kernel_rfl, fun _ => ⟨.agg #[.int .i64 0, .int .i64 0, .int .i64 0, .int .i64 0, .string ⟨#[]⟩, .int .i64 0, .int .i64 0, .int .i64 0], by kernel_rfl, by kernel_rfl⟩⟩, ⟨rfl, by decide, td3, ⟨rfl, by decide, td32, trivial⟩⟩, by kernel_rfl, by kernel_rfl⟩
theorem td44 : TD Try.prog (.sl Y_laws_Decision) 44 := ⟨28, Try.underlying44, ⟨Try.t44, by kernel_rfl, by kernel_rfl, fun _ => ⟨.slice none 0 0, by kernel_rfl, by kernel_rfl⟩⟩, td28⟩
theorem td47 : TD Try.prog (.sl Y_impl_Decision) 47 := ⟨39, Try.underlying47, ⟨Try.t47, by kernel_rfl, by kernel_rfl, fun _ => ⟨.slice none 0 0, by kernel_rfl, by kernel_rfl⟩⟩, td39⟩
theorem td52 : TD Try.prog (.sl (.int .u8)) 52 := ⟨5, Try.underlying52, ⟨Try.t52, by kernel_rfl, by kernel_rfl, fun _ => ⟨.slice none 0 0, by kernel_rfl, by kernel_rfl⟩⟩, td5⟩
theorem td92 : TD Try.prog (.bx Y_impl_Master) 92 := ⟨34, Try.underlying92, ⟨Try.t92, by kernel_rfl, by kernel_rfl, fun h => by cases h⟩⟩
theorem td154 : TD Try.prog (.sl Y_impl_Interval) 154 := ⟨54, Try.underlying154, ⟨Try.t154, by kernel_rfl, by kernel_rfl, fun _ => ⟨.slice none 0 0, by kernel_rfl, by kernel_rfl⟩⟩, td54⟩
theorem tb_all : AllP (fun t (ti : TI) => TD Try.prog ti.ty t ∧ ∀ a, ti.ty = .sl a → ∃ e i, Try.prog.underlying t = some (.slice e) ∧ Try.prog.info? e = some i ∧ i.bytes = ti.eb) TBl := ⟨⟨td3, fun _ h => by cases h⟩, ⟨⟨td4, fun _ h => by cases h⟩, ⟨⟨td5, fun _ h => by cases h⟩, ⟨⟨td9, fun _ h => by cases h⟩, ⟨⟨td22, fun _ h => ⟨125, Try.t125, Try.underlying22, by kernel_rfl, by kernel_rfl⟩⟩, ⟨⟨td24, fun _ h => by cases h⟩, ⟨⟨td26, fun _ h => by cases h⟩, ⟨⟨td28, fun _ h => by cases h⟩, ⟨⟨td31, fun _ h => ⟨87, Try.t87, Try.underlying31, by kernel_rfl, by kernel_rfl⟩⟩, ⟨⟨td32, fun _ h => by cases h⟩, ⟨⟨td34, fun _ h => by cases h⟩, ⟨⟨td39, fun _ h => by cases h⟩, ⟨⟨td44, fun _ h => ⟨28, Try.t28, Try.underlying44, by kernel_rfl, by kernel_rfl⟩⟩, ⟨⟨td47, fun _ h => ⟨39, Try.t39, Try.underlying47, by kernel_rfl, by kernel_rfl⟩⟩, ⟨⟨td52, fun _ h => ⟨5, Try.t5, Try.underlying52, by kernel_rfl, by kernel_rfl⟩⟩, ⟨⟨td54, fun _ h => by cases h⟩, ⟨⟨td87, fun _ h => by cases h⟩, ⟨⟨td92, fun _ h => by cases h⟩, ⟨⟨td123, fun _ h => by cases h⟩, ⟨⟨td125, fun _ h => by cases h⟩, ⟨⟨td154, fun _ h => ⟨54, Try.t54, Try.underlying154, by kernel_rfl, by kernel_rfl⟩⟩, trivial⟩⟩⟩⟩⟩⟩⟩⟩⟩⟩⟩⟩⟩⟩⟩⟩⟩⟩⟩⟩⟩
theorem ft_all : AllP (fun f (fn : Func) => Try.prog.funcs[f]? = some fn ∧ (fn.name == "runtime.NumGoroutine") = false) FTl := ⟨⟨Try.func3, by kernel_rfl⟩, ⟨⟨Try.func4, by kernel_rfl⟩, ⟨⟨Try.func6, by kernel_rfl⟩, ⟨⟨Try.func7, by kernel_rfl⟩, ⟨⟨Try.func8, by kernel_rfl⟩, ⟨⟨Try.func9, by kernel_rfl⟩, ⟨⟨Try.func10, by kernel_rfl⟩, ⟨⟨Try.func11, by kernel_rfl⟩, ⟨⟨Try.func12, by kernel_rfl⟩, ⟨⟨Try.func13, by kernel_rfl⟩, ⟨⟨Try.func14, by kernel_rfl⟩, ⟨⟨Try.func15, by kernel_rfl⟩, ⟨⟨Try.func16, by kernel_rfl⟩, ⟨⟨Try.func17, by kernel_rfl⟩, ⟨⟨Try.func18, by kernel_rfl⟩, ⟨⟨Try.func19, by kernel_rfl⟩, ⟨⟨Try.func20, by kernel_rfl⟩, ⟨⟨Try.func31, by kernel_rfl⟩, ⟨⟨Try.func32, by kernel_rfl⟩, ⟨⟨Try.func33, by kernel_rfl⟩, ⟨⟨Try.func34, by kernel_rfl⟩, ⟨⟨Try.func35, by kernel_rfl⟩, ⟨⟨Try.func36, by kernel_rfl⟩, ⟨⟨Try.func37, by kernel_rfl⟩, ⟨⟨Try.func38, by kernel_rfl⟩, ⟨⟨Try.func39, by kernel_rfl⟩, ⟨⟨Try.func40, by kernel_rfl⟩, ⟨⟨Try.func41, by kernel_rfl⟩, ⟨⟨Try.func42, by kernel_rfl⟩, ⟨⟨Try.func43, by kernel_rfl⟩, ⟨⟨Try.func44, by kernel_rfl⟩, ⟨⟨Try.func45, by kernel_rfl⟩, ⟨⟨Try.func46, by kernel_rfl⟩, ⟨⟨Try.func47, by kernel_rfl⟩, ⟨⟨Try.func48, by kernel_rfl⟩, ⟨⟨Try.func49, by kernel_rfl⟩, ⟨⟨Try.func50, by kernel_rfl⟩, ⟨⟨Try.func51, by kernel_rfl⟩, ⟨⟨Try.func52, by kernel_rfl⟩, ⟨⟨Try.func53, by kernel_rfl⟩, ⟨⟨Try.func64, by kernel_rfl⟩, ⟨⟨Try.func68, by kernel_rfl⟩, ⟨⟨Try.func73, by kernel_rfl⟩, ⟨⟨Try.func75, by kernel_rfl⟩, ⟨⟨Try.func76, by kernel_rfl⟩, ⟨⟨Try.func77, by kernel_rfl⟩, ⟨⟨Try.func78, by kernel_rfl⟩, ⟨⟨Try.func79, by kernel_rfl⟩, ⟨⟨Try.func80, by kernel_rfl⟩, ⟨⟨Try.func81, by kernel_rfl⟩, ⟨⟨Try.func82, by kernel_rfl⟩, ⟨⟨Try.func83, by kernel_rfl⟩, ⟨⟨Try.func84, by kernel_rfl⟩, ⟨⟨Try.func85, by kernel_rfl⟩, ⟨⟨Try.func86, by kernel_rfl⟩, ⟨⟨Try.func87, by kernel_rfl⟩, ⟨⟨Try.func88, by kernel_rfl⟩, ⟨⟨Try.func99, by kernel_rfl⟩, ⟨⟨Try.func108, by kernel_rfl⟩, ⟨⟨Try.func112, by kernel_rfl⟩, ⟨⟨Try.func113, by kernel_rfl⟩, ⟨⟨Try.func114, by kernel_rfl⟩, ⟨⟨Try.func115, by kernel_rfl⟩, ⟨⟨Try.func116, by kernel_rfl⟩, ⟨⟨Try.func117, by kernel_rfl⟩, ⟨⟨Try.func118, by kernel_rfl⟩, ⟨⟨Try.func119, by kernel_rfl⟩, ⟨⟨Try.func120, by kernel_rfl⟩, ⟨⟨Try.func121, by kernel_rfl⟩, ⟨⟨Try.func122, by kernel_rfl⟩, ⟨⟨Try.func123, by kernel_rfl⟩, trivial⟩⟩⟩⟩⟩⟩⟩⟩⟩⟩⟩⟩⟩⟩⟩⟩⟩⟩⟩⟩⟩⟩⟩⟩⟩⟩⟩⟩⟩⟩⟩⟩⟩⟩⟩⟩⟩⟩⟩⟩⟩⟩⟩⟩⟩⟩⟩⟩⟩⟩⟩⟩⟩⟩⟩⟩⟩⟩⟩⟩⟩⟩⟩⟩⟩⟩⟩⟩⟩⟩⟩
theorem zz : ∀ i, tto i (tz i) = (TR i).dflt
  | 0 => rfl
  | 1 => rfl
  | 2 => rfl
  | 3 => rfl
  | 4 => rfl
  | 5 => rfl
  | 6 => rfl
  | 7 => rfl
  | 8 => rfl
  | 9 => rfl
  | 10 => rfl
  | 11 => rfl
  | 12 => rfl
  | 13 => rfl
  | 14 => rfl
  | 15 => rfl
  | 16 => rfl
  | 17 => rfl
  | 18 => rfl
  | 19 => rfl
  | 20 => rfl
  | 21 => rfl
  | 22 => rfl
  | 23 => rfl
  | _ + 24 => rfl
theorem good : Good := ⟨fun _ _ h => look_all ft_all h, fun _ _ h => look_all tb_all h, zz, by kernel_rfl⟩
def lit (l : List UInt8) : ByteArray := ⟨l.toArray⟩
def es : ByteArray := ⟨#[]⟩
/-- What is still to be done from a region on. -/
def conts : Code → List Item → Nat → Option (List Item)
  | .seq a b, k, r => match conts a (.code b :: k) r with
    | some x => some x
    | none => conts b k r
  | .cond _ x y, k, r => match conts x k r with
    | some x => some x
    | none => conts y k r
  | .block l b, k, r => conts b (.inBlock l :: k) r
  | .loop b, k, r => conts b (.inLoop b :: k) r
  | .region i ops draw, k, r => bif Nat.beq i r then some (.code (.region i ops draw) :: k) else none
  | _, _, _ => none
noncomputable def cont (f r : Nat) : List Item := match look f FTl with
  | some fn => match fn.body with
    | some c => (conts c [] r).getD []
    | none => []
  | none => []
end Go.Proofs.Ytkelnaphjekenaa.Ev
