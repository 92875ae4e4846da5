/- The program's types and functions as the evaluator's tables. No condition. -/
import Derived.Test.YtoiafcghelgpdaaGreatEngC
import Derived.Test.YtoiafcghelgpdaaGreatProg
set_option maxRecDepth 100000
namespace Go.Proofs.YtoiafcghelgpdaaGreat.Ev
open Go.Proofs.YtoiafcghelgpdaaGreat.Eng
/-- impl.Interval -/
structure impl_Interval where
  Low : ByteArray
  High : ByteArray
/-- impl.Pair -/
structure impl_Pair where
  Key : ByteArray
  Value : Int
/-- impl.Session -/
structure impl_Session where
  Client : Int
  Seq : Int
  Reply : Int
/-- impl.State -/
structure impl_State where
  Span : impl_Interval
  Pairs : (List impl_Pair)
  Known : (List impl_Session)
  Sealed : Bool
  Cut : ByteArray
/-- impl.Config -/
structure impl_Config where
  Epoch : Int
  Members : (List Int)
  Fresh : Bool
/-- impl.Command -/
structure impl_Command where
  Kind : Int
  Key : ByteArray
  Value : Int
  Old : Int
/-- impl.Entry -/
structure impl_Entry where
  Client : Int
  Seq : Int
  Cmd : impl_Command
/-- impl.Replica -/
structure impl_Replica where
  Conf : impl_Config
  Ready : Bool
  Log : (List impl_Entry)
/-- impl.Message -/
structure impl_Message where
  Kind : Int
  To : Int
  Epoch : Int
  Conf : impl_Config
  Log : (List impl_Entry)
/-- impl.Answer -/
structure impl_Answer where
  Asked : impl_Entry
  Reply : Int
/-- impl.Chain -/
structure impl_Chain where
  Base : impl_State
  Conf : impl_Config
  Nodes : (List impl_Replica)
  Up : (List Bool)
  Bag : (List impl_Message)
  Answers : (List impl_Answer)
/-- impl.Event -/
structure impl_Event where
  Kind : Int
  Node : Int
  Place : Int
  Sent : impl_Entry
/-- spec.l20Rd -/
structure spec_l20Rd where
  b : (List Int)
  p : Int
abbrev R_impl_Interval : Ty := (.pair .str (.pair .str .unit))
abbrev Y_impl_Interval : Ty := .st 10 R_impl_Interval
abbrev R_impl_Pair : Ty := (.pair .str (.pair (.int .i64) .unit))
abbrev Y_impl_Pair : Ty := .st 11 R_impl_Pair
abbrev R_impl_Session : Ty := (.pair (.int .i64) (.pair (.int .i64) (.pair (.int .i64) .unit)))
abbrev Y_impl_Session : Ty := .st 12 R_impl_Session
abbrev R_impl_State : Ty := (.pair Y_impl_Interval (.pair (.sl Y_impl_Pair) (.pair (.sl Y_impl_Session) (.pair .bool (.pair .str .unit)))))
abbrev Y_impl_State : Ty := .st 14 R_impl_State
abbrev R_impl_Config : Ty := (.pair (.int .i64) (.pair (.sl (.int .i64)) (.pair .bool .unit)))
abbrev Y_impl_Config : Ty := .st 16 R_impl_Config
abbrev R_impl_Command : Ty := (.pair (.int .i64) (.pair .str (.pair (.int .i64) (.pair (.int .i64) .unit))))
abbrev Y_impl_Command : Ty := .st 19 R_impl_Command
abbrev R_impl_Entry : Ty := (.pair (.int .i64) (.pair (.int .i64) (.pair Y_impl_Command .unit)))
abbrev Y_impl_Entry : Ty := .st 18 R_impl_Entry
abbrev R_impl_Replica : Ty := (.pair Y_impl_Config (.pair .bool (.pair (.sl Y_impl_Entry) .unit)))
abbrev Y_impl_Replica : Ty := .st 17 R_impl_Replica
abbrev R_impl_Message : Ty := (.pair (.int .i64) (.pair (.int .i64) (.pair (.int .i64) (.pair Y_impl_Config (.pair (.sl Y_impl_Entry) .unit)))))
abbrev Y_impl_Message : Ty := .st 20 R_impl_Message
abbrev R_impl_Answer : Ty := (.pair Y_impl_Entry (.pair (.int .i64) .unit))
abbrev Y_impl_Answer : Ty := .st 21 R_impl_Answer
abbrev R_impl_Chain : Ty := (.pair Y_impl_State (.pair Y_impl_Config (.pair (.sl Y_impl_Replica) (.pair (.sl .bool) (.pair (.sl Y_impl_Message) (.pair (.sl Y_impl_Answer) .unit))))))
abbrev Y_impl_Chain : Ty := .st 23 R_impl_Chain
abbrev R_impl_Event : Ty := (.pair (.int .i64) (.pair (.int .i64) (.pair (.int .i64) (.pair Y_impl_Entry .unit))))
abbrev Y_impl_Event : Ty := .st 27 R_impl_Event
abbrev R_spec_l20Rd : Ty := (.pair (.sl (.int .u8)) (.pair (.int .i64) .unit))
abbrev Y_spec_l20Rd : Ty := .st 31 R_spec_l20Rd
def TT : Nat → Type
  | 0 => Unit
  | 1 => Unit
  | 2 => Unit
  | 3 => Unit
  | 4 => Unit
  | 5 => Unit
  | 6 => Unit
  | 7 => Unit
  | 8 => Unit
  | 9 => Unit
  | 10 => impl_Interval
  | 11 => impl_Pair
  | 12 => impl_Session
  | 13 => Unit
  | 14 => impl_State
  | 15 => Unit
  | 16 => impl_Config
  | 17 => impl_Replica
  | 18 => impl_Entry
  | 19 => impl_Command
  | 20 => impl_Message
  | 21 => impl_Answer
  | 22 => Unit
  | 23 => impl_Chain
  | 24 => Unit
  | 25 => Unit
  | 26 => Unit
  | 27 => impl_Event
  | 28 => Unit
  | 29 => Unit
  | 30 => Unit
  | 31 => spec_l20Rd
  | _ + 32 => Unit
def TR : Nat → Ty
  | 0 => .unit
  | 1 => .unit
  | 2 => .unit
  | 3 => .unit
  | 4 => .unit
  | 5 => .unit
  | 6 => .unit
  | 7 => .unit
  | 8 => .unit
  | 9 => .unit
  | 10 => R_impl_Interval
  | 11 => R_impl_Pair
  | 12 => R_impl_Session
  | 13 => .unit
  | 14 => R_impl_State
  | 15 => .unit
  | 16 => R_impl_Config
  | 17 => R_impl_Replica
  | 18 => R_impl_Entry
  | 19 => R_impl_Command
  | 20 => R_impl_Message
  | 21 => R_impl_Answer
  | 22 => .unit
  | 23 => R_impl_Chain
  | 24 => .unit
  | 25 => .unit
  | 26 => .unit
  | 27 => R_impl_Event
  | 28 => .unit
  | 29 => .unit
  | 30 => .unit
  | 31 => R_spec_l20Rd
  | _ + 32 => .unit
def tto : ∀ i, TT i → (TR i).den TT
  | 0 => fun _ => ()
  | 1 => fun _ => ()
  | 2 => fun _ => ()
  | 3 => fun _ => ()
  | 4 => fun _ => ()
  | 5 => fun _ => ()
  | 6 => fun _ => ()
  | 7 => fun _ => ()
  | 8 => fun _ => ()
  | 9 => fun _ => ()
  | 10 => fun x => (x.Low, x.High, ())
  | 11 => fun x => (x.Key, x.Value, ())
  | 12 => fun x => (x.Client, x.Seq, x.Reply, ())
  | 13 => fun _ => ()
  | 14 => fun x => (x.Span, x.Pairs, x.Known, x.Sealed, x.Cut, ())
  | 15 => fun _ => ()
  | 16 => fun x => (x.Epoch, x.Members, x.Fresh, ())
  | 17 => fun x => (x.Conf, x.Ready, x.Log, ())
  | 18 => fun x => (x.Client, x.Seq, x.Cmd, ())
  | 19 => fun x => (x.Kind, x.Key, x.Value, x.Old, ())
  | 20 => fun x => (x.Kind, x.To, x.Epoch, x.Conf, x.Log, ())
  | 21 => fun x => (x.Asked, x.Reply, ())
  | 22 => fun _ => ()
  | 23 => fun x => (x.Base, x.Conf, x.Nodes, x.Up, x.Bag, x.Answers, ())
  | 24 => fun _ => ()
  | 25 => fun _ => ()
  | 26 => fun _ => ()
  | 27 => fun x => (x.Kind, x.Node, x.Place, x.Sent, ())
  | 28 => fun _ => ()
  | 29 => fun _ => ()
  | 30 => fun _ => ()
  | 31 => fun x => (x.b, x.p, ())
  | _ + 32 => fun _ => ()
def tof : ∀ i, (TR i).den TT → TT i
  | 0 => fun _ => ()
  | 1 => fun _ => ()
  | 2 => fun _ => ()
  | 3 => fun _ => ()
  | 4 => fun _ => ()
  | 5 => fun _ => ()
  | 6 => fun _ => ()
  | 7 => fun _ => ()
  | 8 => fun _ => ()
  | 9 => fun _ => ()
  | 10 => fun x => ⟨x.1, x.2.1⟩
  | 11 => fun x => ⟨x.1, x.2.1⟩
  | 12 => fun x => ⟨x.1, x.2.1, x.2.2.1⟩
  | 13 => fun _ => ()
  | 14 => fun x => ⟨x.1, x.2.1, x.2.2.1, x.2.2.2.1, x.2.2.2.2.1⟩
  | 15 => fun _ => ()
  | 16 => fun x => ⟨x.1, x.2.1, x.2.2.1⟩
  | 17 => fun x => ⟨x.1, x.2.1, x.2.2.1⟩
  | 18 => fun x => ⟨x.1, x.2.1, x.2.2.1⟩
  | 19 => fun x => ⟨x.1, x.2.1, x.2.2.1, x.2.2.2.1⟩
  | 20 => fun x => ⟨x.1, x.2.1, x.2.2.1, x.2.2.2.1, x.2.2.2.2.1⟩
  | 21 => fun x => ⟨x.1, x.2.1⟩
  | 22 => fun _ => ()
  | 23 => fun x => ⟨x.1, x.2.1, x.2.2.1, x.2.2.2.1, x.2.2.2.2.1, x.2.2.2.2.2.1⟩
  | 24 => fun _ => ()
  | 25 => fun _ => ()
  | 26 => fun _ => ()
  | 27 => fun x => ⟨x.1, x.2.1, x.2.2.1, x.2.2.2.1⟩
  | 28 => fun _ => ()
  | 29 => fun _ => ()
  | 30 => fun _ => ()
  | 31 => fun x => ⟨x.1, x.2.1⟩
  | _ + 32 => fun _ => ()
def z_impl_Interval : impl_Interval := ⟨⟨#[]⟩, ⟨#[]⟩⟩
def z_impl_Pair : impl_Pair := ⟨⟨#[]⟩, (0 : Int)⟩
def z_impl_Session : impl_Session := ⟨(0 : Int), (0 : Int), (0 : Int)⟩
def z_impl_State : impl_State := ⟨z_impl_Interval, [], [], false, ⟨#[]⟩⟩
def z_impl_Config : impl_Config := ⟨(0 : Int), [], false⟩
def z_impl_Command : impl_Command := ⟨(0 : Int), ⟨#[]⟩, (0 : Int), (0 : Int)⟩
def z_impl_Entry : impl_Entry := ⟨(0 : Int), (0 : Int), z_impl_Command⟩
def z_impl_Replica : impl_Replica := ⟨z_impl_Config, false, []⟩
def z_impl_Message : impl_Message := ⟨(0 : Int), (0 : Int), (0 : Int), z_impl_Config, []⟩
def z_impl_Answer : impl_Answer := ⟨z_impl_Entry, (0 : Int)⟩
def z_impl_Chain : impl_Chain := ⟨z_impl_State, z_impl_Config, [], [], [], []⟩
def z_impl_Event : impl_Event := ⟨(0 : Int), (0 : Int), (0 : Int), z_impl_Entry⟩
def z_spec_l20Rd : spec_l20Rd := ⟨[], (0 : Int)⟩
def tz : ∀ i, TT i
  | 0 => ()
  | 1 => ()
  | 2 => ()
  | 3 => ()
  | 4 => ()
  | 5 => ()
  | 6 => ()
  | 7 => ()
  | 8 => ()
  | 9 => ()
  | 10 => z_impl_Interval
  | 11 => z_impl_Pair
  | 12 => z_impl_Session
  | 13 => ()
  | 14 => z_impl_State
  | 15 => ()
  | 16 => z_impl_Config
  | 17 => z_impl_Replica
  | 18 => z_impl_Entry
  | 19 => z_impl_Command
  | 20 => z_impl_Message
  | 21 => z_impl_Answer
  | 22 => ()
  | 23 => z_impl_Chain
  | 24 => ()
  | 25 => ()
  | 26 => ()
  | 27 => z_impl_Event
  | 28 => ()
  | 29 => ()
  | 30 => ()
  | 31 => z_spec_l20Rd
  | _ + 32 => ()
theorem t1 : ∀ i (x : (TR i).den TT), tto i (tof i x) = x
  | 0 => fun _ => rfl
  | 1 => fun _ => rfl
  | 2 => fun _ => rfl
  | 3 => fun _ => rfl
  | 4 => fun _ => rfl
  | 5 => fun _ => rfl
  | 6 => fun _ => rfl
  | 7 => fun _ => rfl
  | 8 => fun _ => rfl
  | 9 => fun _ => rfl
  | 10 => fun _ => rfl
  | 11 => fun _ => rfl
  | 12 => fun _ => rfl
  | 13 => fun _ => rfl
  | 14 => fun _ => rfl
  | 15 => fun _ => rfl
  | 16 => fun _ => rfl
  | 17 => fun _ => rfl
  | 18 => fun _ => rfl
  | 19 => fun _ => rfl
  | 20 => fun _ => rfl
  | 21 => fun _ => rfl
  | 22 => fun _ => rfl
  | 23 => fun _ => rfl
  | 24 => fun _ => rfl
  | 25 => fun _ => rfl
  | 26 => fun _ => rfl
  | 27 => fun _ => rfl
  | 28 => fun _ => rfl
  | 29 => fun _ => rfl
  | 30 => fun _ => rfl
  | 31 => fun _ => rfl
  | _ + 32 => fun _ => rfl
theorem t2 : ∀ i (x : TT i), tof i (tto i x) = x
  | 0 => fun _ => rfl
  | 1 => fun _ => rfl
  | 2 => fun _ => rfl
  | 3 => fun _ => rfl
  | 4 => fun _ => rfl
  | 5 => fun _ => rfl
  | 6 => fun _ => rfl
  | 7 => fun _ => rfl
  | 8 => fun _ => rfl
  | 9 => fun _ => rfl
  | 10 => fun _ => rfl
  | 11 => fun _ => rfl
  | 12 => fun _ => rfl
  | 13 => fun _ => rfl
  | 14 => fun _ => rfl
  | 15 => fun _ => rfl
  | 16 => fun _ => rfl
  | 17 => fun _ => rfl
  | 18 => fun _ => rfl
  | 19 => fun _ => rfl
  | 20 => fun _ => rfl
  | 21 => fun _ => rfl
  | 22 => fun _ => rfl
  | 23 => fun _ => rfl
  | 24 => fun _ => rfl
  | 25 => fun _ => rfl
  | 26 => fun _ => rfl
  | 27 => fun _ => rfl
  | 28 => fun _ => rfl
  | 29 => fun _ => rfl
  | 30 => fun _ => rfl
  | 31 => fun _ => rfl
  | _ + 32 => fun _ => rfl
instance : Tys := ⟨TT, TR, tto, tof, tz, t1, t2⟩
def look {α : Type} (k : Nat) : List (Nat × α) → Option α
  | [] => none
  | x :: l => bif Nat.beq x.1 k then some x.2 else look k l
noncomputable def FTl : List (Nat × Func) := [(3, Tryz.f3), (4, Tryz.f4), (6, Tryz.f6), (7, Tryz.f7), (8, Tryz.f8), (9, Tryz.f9), (10, Tryz.f10), (11, Tryz.f11), (12, Tryz.f12), (13, Tryz.f13), (14, Tryz.f14), (15, Tryz.f15), (16, Tryz.f16), (17, Tryz.f17), (18, Tryz.f18), (26, Tryz.f26), (27, Tryz.f27), (28, Tryz.f28), (29, Tryz.f29), (30, Tryz.f30), (31, Tryz.f31), (32, Tryz.f32), (33, Tryz.f33), (34, Tryz.f34), (35, Tryz.f35), (36, Tryz.f36), (37, Tryz.f37), (38, Tryz.f38), (39, Tryz.f39), (40, Tryz.f40), (41, Tryz.f41), (42, Tryz.f42), (43, Tryz.f43), (44, Tryz.f44), (45, Tryz.f45), (46, Tryz.f46), (47, Tryz.f47), (50, Tryz.f50), (58, Tryz.f58), (59, Tryz.f59), (60, Tryz.f60), (61, Tryz.f61), (62, Tryz.f62), (63, Tryz.f63), (64, Tryz.f64), (65, Tryz.f65), (66, Tryz.f66), (67, Tryz.f67), (68, Tryz.f68), (69, Tryz.f69), (70, Tryz.f70), (71, Tryz.f71), (72, Tryz.f72), (73, Tryz.f73), (74, Tryz.f74), (75, Tryz.f75), (76, Tryz.f76), (77, Tryz.f77), (78, Tryz.f78), (79, Tryz.f79), (80, Tryz.f80), (81, Tryz.f81), (82, Tryz.f82), (83, Tryz.f83), (84, Tryz.f84), (85, Tryz.f85), (86, Tryz.f86), (87, Tryz.f87), (88, Tryz.f88), (89, Tryz.f89), (90, Tryz.f90), (91, Tryz.f91), (92, Tryz.f92), (93, Tryz.f93), (94, Tryz.f94), (95, Tryz.f95), (96, Tryz.f96), (97, Tryz.f97), (98, Tryz.f98), (99, Tryz.f99), (100, Tryz.f100), (101, Tryz.f101), (102, Tryz.f102), (103, Tryz.f103), (104, Tryz.f104), (105, Tryz.f105), (117, Tryz.f117), (118, Tryz.f118), (119, Tryz.f119), (120, Tryz.f120), (121, Tryz.f121), (122, Tryz.f122), (123, Tryz.f123), (124, Tryz.f124), (125, Tryz.f125), (126, Tryz.f126), (127, Tryz.f127), (128, Tryz.f128), (129, Tryz.f129), (130, Tryz.f130), (131, Tryz.f131), (132, Tryz.f132), (133, Tryz.f133), (134, Tryz.f134), (135, Tryz.f135), (136, Tryz.f136), (137, Tryz.f137), (138, Tryz.f138), (139, Tryz.f139), (140, Tryz.f140), (141, Tryz.f141), (142, Tryz.f142), (143, Tryz.f143), (144, Tryz.f144), (145, Tryz.f145), (146, Tryz.f146), (147, Tryz.f147), (148, Tryz.f148), (149, Tryz.f149), (150, Tryz.f150), (151, Tryz.f151), (152, Tryz.f152), (153, Tryz.f153), (154, Tryz.f154), (155, Tryz.f155), (156, Tryz.f156), (157, Tryz.f157), (158, Tryz.f158), (159, Tryz.f159), (160, Tryz.f160), (161, Tryz.f161), (170, Tryz.f170), (171, Tryz.f171), (172, Tryz.f172), (173, Tryz.f173), (174, Tryz.f174), (175, Tryz.f175), (176, Tryz.f176), (177, Tryz.f177), (178, Tryz.f178), (179, Tryz.f179), (180, Tryz.f180), (181, Tryz.f181), (182, Tryz.f182), (183, Tryz.f183), (184, Tryz.f184), (185, Tryz.f185), (186, Tryz.f186), (187, Tryz.f187), (188, Tryz.f188), (189, Tryz.f189), (190, Tryz.f190), (191, Tryz.f191), (202, Tryz.f202), (203, Tryz.f203), (204, Tryz.f204)]
def TBl : List (Nat × TI) := [(3, ⟨(.int .i64), 0⟩), (4, ⟨.bool, 0⟩), (5, ⟨(.int .u8), 0⟩), (9, ⟨.str, 0⟩), (22, ⟨(.sl (.int .u8)), 1⟩), (24, ⟨Y_impl_Interval, 0⟩), (25, ⟨(.sl Y_impl_Pair), 24⟩), (26, ⟨(.sl Y_impl_Session), 24⟩), (28, ⟨Y_impl_State, 0⟩), (29, ⟨(.sl (.int .i64)), 8⟩), (31, ⟨Y_impl_Config, 0⟩), (32, ⟨(.sl Y_impl_Replica), 72⟩), (33, ⟨(.sl .bool), 1⟩), (34, ⟨(.sl Y_impl_Message), 88⟩), (35, ⟨(.sl Y_impl_Answer), 64⟩), (37, ⟨Y_impl_Chain, 0⟩), (48, ⟨Y_impl_Command, 0⟩), (50, ⟨Y_impl_Entry, 0⟩), (52, ⟨Y_impl_Answer, 0⟩), (59, ⟨(.sl Y_impl_Event), 80⟩), (68, ⟨(.sl Y_impl_Entry), 56⟩), (70, ⟨Y_impl_Replica, 0⟩), (73, ⟨Y_impl_Message, 0⟩), (86, ⟨Y_impl_Session, 0⟩), (87, ⟨(.bx Y_spec_l20Rd), 0⟩), (97, ⟨Y_impl_Event, 0⟩), (111, ⟨Y_impl_Pair, 0⟩), (129, ⟨Y_spec_l20Rd, 0⟩), (164, ⟨(.int .u64), 0⟩), (171, ⟨(.sl Y_impl_Config), 40⟩), (178, ⟨(.sl (.sl (.int .i64))), 24⟩), (187, ⟨(.sl Y_impl_Interval), 32⟩), (192, ⟨(.sl .str), 16⟩), (193, ⟨(.sl Y_impl_Command), 40⟩)]
def SGl : List (Nat × Sig) := [(3, ⟨[.bor], (.pair .bool .unit), .lit⟩),
  (4, ⟨[.bor], (.pair .bool .unit), .lit⟩),
  (6, ⟨[.bor], (.pair (.tc Y_impl_Chain (.tc .str .unit)) .unit), (.pair (.pair (.pair (.pair .lit (.pair (.own .lit) (.pair (.own .lit) .lit))) (.pair (.pair .lit (.pair (.own .lit) .lit)) (.pair (.own (.pair (.pair .lit (.pair (.own .lit) .lit)) (.pair .lit (.pair (.own .lit) .lit)))) (.pair (.own .lit) (.pair (.own (.pair .lit (.pair .lit (.pair .lit (.pair (.pair .lit (.pair (.own .lit) .lit)) (.pair (.own .lit) .lit)))))) (.pair (.own .lit) .lit)))))) .lit) .lit)⟩),
  (7, ⟨[.bor, .bor], (.pair (.int .i64) .unit), .lit⟩),
  (8, ⟨[.bor, .bor], (.pair (.int .i64) .unit), .lit⟩),
  (9, ⟨[.bor], (.pair .bool .unit), .lit⟩),
  (10, ⟨[], (.pair .bool .unit), .lit⟩),
  (11, ⟨[.bor, .bor, .bor], (.pair (.int .i64) .unit), .lit⟩),
  (12, ⟨[.bor], (.pair (.tc Y_impl_Chain (.tc (.int .i64) (.tc .str .unit))) .unit), (.pair (.pair (.pair (.pair .lit (.pair (.own .lit) (.pair (.own .lit) .lit))) (.pair (.pair .lit (.pair (.own .lit) .lit)) (.pair (.own (.pair (.pair .lit (.pair (.own .lit) .lit)) (.pair .lit (.pair (.own .lit) .lit)))) (.pair (.own .lit) (.pair (.own (.pair .lit (.pair .lit (.pair .lit (.pair (.pair .lit (.pair (.own .lit) .lit)) (.pair (.own .lit) .lit)))))) (.pair (.own .lit) .lit)))))) .lit) .lit)⟩),
  (13, ⟨[.bor, .bor, .bor], (.pair (.int .i64) .unit), .lit⟩),
  (14, ⟨[.bor], (.pair .bool .unit), .lit⟩),
  (15, ⟨[.bor, .bor], (.pair (.int .i64) .unit), .lit⟩),
  (16, ⟨[.bor], (.pair (.tc Y_impl_Chain (.tc (.int .i64) .unit)) .unit), (.pair (.pair (.pair (.pair .lit (.pair (.own .lit) (.pair (.own .lit) .lit))) (.pair (.pair .lit (.pair (.own .lit) .lit)) (.pair (.own (.pair (.pair .lit (.pair (.own .lit) .lit)) (.pair .lit (.pair (.own .lit) .lit)))) (.pair (.own .lit) (.pair (.own (.pair .lit (.pair .lit (.pair .lit (.pair (.pair .lit (.pair (.own .lit) .lit)) (.pair (.own .lit) .lit)))))) (.pair (.own .lit) .lit)))))) .lit) .lit)⟩),
  (17, ⟨[.bor, .bor], (.pair (.tc Y_impl_State (.tc .bool .unit)) .unit), (.pair (.pair (.pair .lit (.pair (.own .lit) (.pair (.own .lit) .lit))) .lit) .lit)⟩),
  (18, ⟨[.bor, .bor], (.pair (.tc Y_impl_State (.tc .bool .unit)) .unit), (.pair (.pair (.pair .lit (.pair (.own .lit) (.pair (.own .lit) .lit))) .lit) .lit)⟩),
  (26, ⟨[.bor], (.pair .bool .unit), .lit⟩),
  (27, ⟨[.bor], (.pair .bool .unit), .lit⟩),
  (28, ⟨[.bor], (.pair .bool .unit), .lit⟩),
  (29, ⟨[.bor], (.pair .bool .unit), .lit⟩),
  (30, ⟨[.bor], (.pair .bool .unit), .lit⟩),
  (31, ⟨[.bor], (.pair .bool .unit), .lit⟩),
  (32, ⟨[.bor], (.pair (.int .i64) .unit), .lit⟩),
  (33, ⟨[.bor, .bor], (.pair (.int .i64) .unit), .lit⟩),
  (34, ⟨[.bor, .bor], (.pair (.int .i64) .unit), .lit⟩),
  (35, ⟨[.bor], (.pair (.sl Y_impl_Entry) .unit), (.pair (.own .lit) .lit)⟩),
  (36, ⟨[.bor], (.pair (.sl (.int .i64)) .unit), (.pair (.own .lit) .lit)⟩),
  (37, ⟨[.bor, .bor], (.pair .bool .unit), .lit⟩),
  (38, ⟨[.bor, .bor], (.pair (.tc Y_impl_State (.tc (.sl (.int .i64)) .unit)) .unit), (.pair (.pair (.pair .lit (.pair (.own .lit) (.pair (.own .lit) .lit))) (.pair (.own .lit) .lit)) .lit)⟩),
  (39, ⟨[.bor], (.pair .bool .unit), .lit⟩),
  (40, ⟨[.bor, .bor], (.pair (.tc (.int .i64) (.tc .bool .unit)) .unit), .lit⟩),
  (41, ⟨[.bor], (.pair (.bx Y_spec_l20Rd) .unit), (.pair (.own (.pair (.ro [(10000000, 0)]) .lit)) .lit)⟩),
  (42, ⟨[.io, .bor], (.pair Y_impl_Chain (.tc (.bx Y_spec_l20Rd) .unit)), (.pair (.pair (.pair .lit (.pair (.own .lit) (.pair (.own .lit) .lit))) (.pair (.pair .lit (.pair (.own .lit) .lit)) (.pair (.own (.pair (.pair .lit (.pair (.own .lit) .lit)) (.pair .lit (.pair (.own .lit) .lit)))) (.pair (.own .lit) (.pair (.own (.pair .lit (.pair .lit (.pair .lit (.pair (.pair .lit (.pair (.own .lit) .lit)) (.pair (.own .lit) .lit)))))) (.pair (.own .lit) .lit)))))) (.pair (.own (.pair (.ro [(10000000, 0)]) .lit)) .lit))⟩),
  (43, ⟨[.io, .bor], (.pair (.int .i64) (.tc (.bx Y_spec_l20Rd) .unit)), (.pair .lit (.pair (.own (.pair (.ro [(10000000, 0)]) .lit)) .lit))⟩),
  (44, ⟨[.bor], (.pair Y_impl_Chain .unit), (.pair (.pair (.pair .lit (.pair (.own .lit) (.pair (.own .lit) .lit))) (.pair (.pair .lit (.pair (.own .lit) .lit)) (.pair (.own (.pair (.pair .lit (.pair (.own .lit) .lit)) (.pair .lit (.pair (.own .lit) .lit)))) (.pair (.own .lit) (.pair (.own (.pair .lit (.pair .lit (.pair .lit (.pair (.pair .lit (.pair (.own .lit) .lit)) (.pair (.own .lit) .lit)))))) (.pair (.own .lit) .lit)))))) .lit)⟩),
  (45, ⟨[.bor, .bor, .bor], (.pair .bool .unit), .lit⟩),
  (46, ⟨[.bor], (.pair (.sl Y_impl_Entry) .unit), (.pair (.own .lit) .lit)⟩),
  (47, ⟨[.bor, .bor], (.pair (.tc Y_impl_State (.tc (.sl (.int .i64)) .unit)) .unit), (.pair (.pair (.pair .lit (.pair (.own .lit) (.pair (.own .lit) .lit))) (.pair (.own .lit) .lit)) .lit)⟩),
  (50, ⟨[.io, .bor], (.pair (.tc Y_impl_Chain (.tc (.sl Y_impl_Event) .unit)) (.tc (.bx Y_spec_l20Rd) .unit)), (.pair (.pair (.pair (.pair .lit (.pair (.own .lit) (.pair (.own .lit) .lit))) (.pair (.pair .lit (.pair (.own .lit) .lit)) (.pair (.own (.pair (.pair .lit (.pair (.own .lit) .lit)) (.pair .lit (.pair (.own .lit) .lit)))) (.pair (.own .lit) (.pair (.own (.pair .lit (.pair .lit (.pair .lit (.pair (.pair .lit (.pair (.own .lit) .lit)) (.pair (.own .lit) .lit)))))) (.pair (.own .lit) .lit)))))) (.pair (.own .lit) .lit)) (.pair (.own (.pair (.ro [(10000000, 0)]) .lit)) .lit))⟩),
  (58, ⟨[.bor], (.pair (.sl (.int .i64)) .unit), (.pair (.own .lit) .lit)⟩),
  (59, ⟨[.bor], (.pair .bool .unit), .lit⟩),
  (60, ⟨[.bor], (.pair .bool .unit), .lit⟩),
  (61, ⟨[.bor], (.pair .bool .unit), .lit⟩),
  (62, ⟨[.bor], (.pair .bool .unit), .lit⟩),
  (63, ⟨[.bor], (.pair .bool .unit), .lit⟩),
  (64, ⟨[.bor], (.pair .bool .unit), .lit⟩),
  (65, ⟨[.bor], (.pair .bool .unit), .lit⟩),
  (66, ⟨[.bor, .bor], (.pair .bool .unit), .lit⟩),
  (67, ⟨[.bor, .bor], (.pair (.tc Y_impl_Interval (.tc Y_impl_Interval (.tc .bool .unit))) .unit), .lit⟩),
  (68, ⟨[.bor], (.pair .bool .unit), .lit⟩),
  (69, ⟨[.bor, .bor], (.pair .bool .unit), .lit⟩),
  (70, ⟨[.bor], (.pair .bool .unit), .lit⟩),
  (71, ⟨[.bor], (.pair .bool .unit), .lit⟩),
  (72, ⟨[.bor], (.pair .bool .unit), .lit⟩),
  (73, ⟨[.bor], (.pair .bool .unit), .lit⟩),
  (74, ⟨[.bor], (.pair .bool .unit), .lit⟩),
  (75, ⟨[.bor, .bor], (.pair (.int .i64) .unit), .lit⟩),
  (76, ⟨[.bor, .bor], (.pair (.tc (.int .i64) (.tc .bool .unit)) .unit), .lit⟩),
  (77, ⟨[.bor, .bor], (.pair (.int .i64) .unit), .lit⟩),
  (78, ⟨[.bor], (.pair .bool .unit), .lit⟩),
  (79, ⟨[.bor, .bor], (.pair .bool .unit), .lit⟩),
  (80, ⟨[.bor], (.pair Y_impl_State .unit), (.pair (.pair .lit (.pair (.own .lit) (.pair (.own .lit) .lit))) .lit)⟩),
  (81, ⟨[.bor, .bor], (.pair (.tc Y_impl_State (.tc (.int .i64) .unit)) .unit), (.pair (.pair (.pair .lit (.pair (.own .lit) (.pair (.own .lit) .lit))) .lit) .lit)⟩),
  (82, ⟨[.bor], (.pair .bool .unit), .lit⟩),
  (83, ⟨[.bor, .bor, .bor], (.pair (.tc (.int .i64) (.tc .bool .unit)) .unit), .lit⟩),
  (84, ⟨[.bor, .bor], (.pair (.int .i64) .unit), .lit⟩),
  (85, ⟨[.bor, .bor], (.pair (.int .i64) .unit), .lit⟩),
  (86, ⟨[.bor, .bor], (.pair Y_impl_Chain .unit), (.pair (.pair (.pair .lit (.pair (.own .lit) (.pair (.own .lit) .lit))) (.pair (.pair .lit (.pair (.own .lit) .lit)) (.pair (.own (.pair (.pair .lit (.pair (.own .lit) .lit)) (.pair .lit (.pair (.own .lit) .lit)))) (.pair (.own .lit) (.pair (.own (.pair .lit (.pair .lit (.pair .lit (.pair (.pair .lit (.pair (.own .lit) .lit)) (.pair (.own .lit) .lit)))))) (.pair (.own .lit) .lit)))))) .lit)⟩),
  (87, ⟨[.io, .bor], (.pair .bool (.tc (.bx Y_spec_l20Rd) .unit)), (.pair .lit (.pair (.own (.pair (.ro [(10000000, 0)]) .lit)) .lit))⟩),
  (88, ⟨[.io, .bor], (.pair Y_impl_State (.tc (.bx Y_spec_l20Rd) .unit)), (.pair (.pair .lit (.pair (.own .lit) (.pair (.own .lit) .lit))) (.pair (.own (.pair (.ro [(10000000, 0)]) .lit)) .lit))⟩),
  (89, ⟨[.io, .bor], (.pair Y_impl_Config (.tc (.bx Y_spec_l20Rd) .unit)), (.pair (.pair .lit (.pair (.own .lit) .lit)) (.pair (.own (.pair (.ro [(10000000, 0)]) .lit)) .lit))⟩),
  (90, ⟨[.io, .bor], (.pair Y_impl_Replica (.tc (.bx Y_spec_l20Rd) .unit)), (.pair (.pair (.pair .lit (.pair (.own .lit) .lit)) (.pair .lit (.pair (.own .lit) .lit))) (.pair (.own (.pair (.ro [(10000000, 0)]) .lit)) .lit))⟩),
  (91, ⟨[.io, .bor], (.pair (.sl Y_impl_Message) (.tc (.bx Y_spec_l20Rd) .unit)), (.pair (.own (.pair .lit (.pair .lit (.pair .lit (.pair (.pair .lit (.pair (.own .lit) .lit)) (.pair (.own .lit) .lit)))))) (.pair (.own (.pair (.ro [(10000000, 0)]) .lit)) .lit))⟩),
  (92, ⟨[.io, .bor], (.pair Y_impl_Entry (.tc (.bx Y_spec_l20Rd) .unit)), (.pair .lit (.pair (.own (.pair (.ro [(10000000, 0)]) .lit)) .lit))⟩),
  (93, ⟨[.io, .bor], (.pair (.int .i64) (.tc (.bx Y_spec_l20Rd) .unit)), (.pair .lit (.pair (.own (.pair (.ro [(10000000, 0)]) .lit)) .lit))⟩),
  (94, ⟨[.io, .bor], (.pair (.sl Y_impl_Entry) (.tc (.bx Y_spec_l20Rd) .unit)), (.pair (.own .lit) (.pair (.own (.pair (.ro [(10000000, 0)]) .lit)) .lit))⟩),
  (95, ⟨[.bor], (.pair Y_impl_Chain .unit), (.pair (.pair (.pair .lit (.pair (.own .lit) (.pair (.own .lit) .lit))) (.pair (.pair .lit (.pair (.own .lit) .lit)) (.pair (.own (.pair (.pair .lit (.pair (.own .lit) .lit)) (.pair .lit (.pair (.own .lit) .lit)))) (.pair (.own .lit) (.pair (.own (.pair .lit (.pair .lit (.pair .lit (.pair (.pair .lit (.pair (.own .lit) .lit)) (.pair (.own .lit) .lit)))))) (.pair (.own .lit) .lit)))))) .lit)⟩),
  (96, ⟨[.bor, .bor, .bor], (.pair Y_impl_Chain .unit), (.pair (.pair (.pair .lit (.pair (.own .lit) (.pair (.own .lit) .lit))) (.pair (.pair .lit (.pair (.own .lit) .lit)) (.pair (.own (.pair (.pair .lit (.pair (.own .lit) .lit)) (.pair .lit (.pair (.own .lit) .lit)))) (.pair (.own .lit) (.pair (.own (.pair .lit (.pair .lit (.pair .lit (.pair (.pair .lit (.pair (.own .lit) .lit)) (.pair (.own .lit) .lit)))))) (.pair (.own .lit) .lit)))))) .lit)⟩),
  (97, ⟨[.bor], (.pair .bool .unit), .lit⟩),
  (98, ⟨[.bor], (.pair Y_impl_State .unit), (.pair (.pair .lit (.pair (.own .lit) (.pair (.own .lit) .lit))) .lit)⟩),
  (99, ⟨[.bor, .bor], (.pair (.tc Y_impl_State (.tc (.int .i64) .unit)) .unit), (.pair (.pair (.pair .lit (.pair (.own .lit) (.pair (.own .lit) .lit))) .lit) .lit)⟩),
  (100, ⟨[.bor, .bor], (.pair Y_impl_Chain .unit), (.pair (.pair (.pair .lit (.pair (.own .lit) (.pair (.own .lit) .lit))) (.pair (.pair .lit (.pair (.own .lit) .lit)) (.pair (.own (.pair (.pair .lit (.pair (.own .lit) .lit)) (.pair .lit (.pair (.own .lit) .lit)))) (.pair (.own .lit) (.pair (.own (.pair .lit (.pair .lit (.pair .lit (.pair (.pair .lit (.pair (.own .lit) .lit)) (.pair (.own .lit) .lit)))))) (.pair (.own .lit) .lit)))))) .lit)⟩),
  (101, ⟨[.io], (.pair Y_impl_State (.tc (.bx Y_spec_l20Rd) .unit)), (.pair (.pair .lit (.pair (.own .lit) (.pair (.own .lit) .lit))) (.pair (.own (.pair (.ro [(10000000, 0)]) .lit)) .lit))⟩),
  (102, ⟨[.io, .bor], (.pair (.sl (.int .i64)) (.tc (.bx Y_spec_l20Rd) .unit)), (.pair (.own .lit) (.pair (.own (.pair (.ro [(10000000, 0)]) .lit)) .lit))⟩),
  (103, ⟨[.io, .bor, .bor], (.pair Y_impl_Event (.tc (.bx Y_spec_l20Rd) .unit)), (.pair .lit (.pair (.own (.pair (.ro [(10000000, 0)]) .lit)) .lit))⟩),
  (104, ⟨[.bor, .bor], (.pair (.sl Y_impl_Event) .unit), (.pair (.own .lit) .lit)⟩),
  (105, ⟨[.bor, .bor], (.pair (.tc Y_impl_Chain (.tc .bool .unit)) .unit), (.pair (.pair (.pair (.pair .lit (.pair (.own .lit) (.pair (.own .lit) .lit))) (.pair (.pair .lit (.pair (.own .lit) .lit)) (.pair (.own (.pair (.pair .lit (.pair (.own .lit) .lit)) (.pair .lit (.pair (.own .lit) .lit)))) (.pair (.own .lit) (.pair (.own (.pair .lit (.pair .lit (.pair .lit (.pair (.pair .lit (.pair (.own .lit) .lit)) (.pair (.own .lit) .lit)))))) (.pair (.own .lit) .lit)))))) .lit) .lit)⟩),
  (117, ⟨[.bor], (.pair .bool .unit), .lit⟩),
  (118, ⟨[.bor], (.pair .bool .unit), .lit⟩),
  (119, ⟨[.bor, .bor], (.pair .bool .unit), .lit⟩),
  (120, ⟨[.bor, .bor], (.pair (.tc Y_impl_Interval (.tc Y_impl_Interval (.tc .bool .unit))) .unit), .lit⟩),
  (121, ⟨[.bor], (.pair .bool .unit), .lit⟩),
  (122, ⟨[.bor], (.pair .bool .unit), .lit⟩),
  (123, ⟨[.bor], (.pair .bool .unit), .lit⟩),
  (124, ⟨[.bor], (.pair .str .unit), .lit⟩),
  (125, ⟨[.bor], (.pair .bool .unit), .lit⟩),
  (126, ⟨[.bor, .bor], (.pair (.int .i64) .unit), .lit⟩),
  (127, ⟨[.bor], (.pair .bool .unit), .lit⟩),
  (128, ⟨[.bor], (.pair .bool .unit), .lit⟩),
  (129, ⟨[.bor], (.pair (.int .i64) .unit), .lit⟩),
  (130, ⟨[.bor, .bor, .bor], (.pair (.tc (.int .i64) (.tc .bool .unit)) .unit), .lit⟩),
  (131, ⟨[.bor, .bor], (.pair (.int .i64) .unit), .lit⟩),
  (132, ⟨[.bor, .bor], (.pair (.int .i64) .unit), .lit⟩),
  (133, ⟨[.bor], (.pair .bool .unit), .lit⟩),
  (134, ⟨[.bor], (.pair (.sl Y_impl_Pair) .unit), (.pair (.own .lit) .lit)⟩),
  (135, ⟨[.bor], (.pair (.sl Y_impl_Session) .unit), (.pair (.own .lit) .lit)⟩),
  (136, ⟨[.bor, .bor], (.pair .bool .unit), .lit⟩),
  (137, ⟨[.bor, .bor], (.pair (.tc (.sl Y_impl_Pair) (.tc (.int .i64) .unit)) .unit), (.pair (.pair (.own .lit) .lit) .lit)⟩),
  (138, ⟨[.bor, .bor], (.pair (.tc (.sl Y_impl_Session) (.tc .bool .unit)) .unit), (.pair (.pair (.own .lit) .lit) .lit)⟩),
  (139, ⟨[.bor], (.pair .bool .unit), .lit⟩),
  (140, ⟨[.bor], (.pair .bool .unit), .lit⟩),
  (141, ⟨[.io, .bor], (.pair Y_impl_Interval (.tc (.bx Y_spec_l20Rd) .unit)), (.pair .lit (.pair (.own (.pair (.ro [(10000000, 0)]) .lit)) .lit))⟩),
  (142, ⟨[.bor, .bor], (.pair (.sl Y_impl_Pair) .unit), (.pair (.own .lit) .lit)⟩),
  (143, ⟨[.io, .bor], (.pair (.sl Y_impl_Pair) (.tc (.bx Y_spec_l20Rd) .unit)), (.pair (.own .lit) (.pair (.own (.pair (.ro [(10000000, 0)]) .lit)) .lit))⟩),
  (144, ⟨[.io, .bor], (.pair (.sl Y_impl_Session) (.tc (.bx Y_spec_l20Rd) .unit)), (.pair (.own .lit) (.pair (.own (.pair (.ro [(10000000, 0)]) .lit)) .lit))⟩),
  (145, ⟨[.bor, .bor], (.pair (.tc Y_impl_Config (.tc .bool .unit)) .unit), (.pair (.pair (.pair .lit (.pair (.own .lit) .lit)) .lit) .lit)⟩),
  (146, ⟨[.bor, .bor], (.pair (.tc Y_impl_Config (.tc .bool .unit)) .unit), (.pair (.pair (.pair .lit (.pair (.own .lit) .lit)) .lit) .lit)⟩),
  (147, ⟨[.bor], (.pair Y_impl_Config .unit), (.pair (.pair .lit (.pair (.own .lit) .lit)) .lit)⟩),
  (148, ⟨[.io, .bor], (.pair Y_impl_Message (.tc (.bx Y_spec_l20Rd) .unit)), (.pair (.pair .lit (.pair .lit (.pair .lit (.pair (.pair .lit (.pair (.own .lit) .lit)) (.pair (.own .lit) .lit))))) (.pair (.own (.pair (.ro [(10000000, 0)]) .lit)) .lit))⟩),
  (149, ⟨[.io, .bor], (.pair Y_impl_Command (.tc (.bx Y_spec_l20Rd) .unit)), (.pair .lit (.pair (.own (.pair (.ro [(10000000, 0)]) .lit)) .lit))⟩),
  (150, ⟨[.io, .bor], (.pair Y_impl_Command (.tc (.bx Y_spec_l20Rd) .unit)), (.pair .lit (.pair (.own (.pair (.ro [(10000000, 0)]) .lit)) .lit))⟩),
  (151, ⟨[.bor], (.pair Y_impl_Config .unit), (.pair (.pair .lit (.pair (.own .lit) .lit)) .lit)⟩),
  (152, ⟨[.bor, .bor], (.pair (.sl Y_impl_Message) .unit), (.pair (.own (.pair .lit (.pair .lit (.pair .lit (.pair (.pair .lit (.pair (.own .lit) .lit)) (.pair (.own .lit) .lit)))))) .lit)⟩),
  (153, ⟨[.bor], (.pair Y_impl_Replica .unit), (.pair (.pair (.pair .lit (.pair (.own .lit) .lit)) (.pair .lit (.pair (.own .lit) .lit))) .lit)⟩),
  (154, ⟨[.bor, .bor], (.pair Y_impl_Session .unit), .lit⟩),
  (155, ⟨[.bor, .bor], (.pair (.tc (.sl Y_impl_Pair) (.tc (.int .i64) .unit)) .unit), (.pair (.pair (.own .lit) .lit) .lit)⟩),
  (156, ⟨[.bor, .bor], (.pair (.tc (.sl Y_impl_Session) (.tc .bool .unit)) .unit), (.pair (.pair (.own .lit) .lit) .lit)⟩),
  (157, ⟨[.bor, .bor], (.pair (.int .i64) .unit), .lit⟩),
  (158, ⟨[.bor], (.pair Y_impl_State .unit), (.pair (.pair .lit (.pair (.own .lit) (.pair (.own .lit) .lit))) .lit)⟩),
  (159, ⟨[.own, .bor], (.pair (.tc Y_impl_Chain (.tc .bool .unit)) .unit), (.pair (.pair (.pair (.pair .lit (.pair (.own .lit) (.pair (.own .lit) .lit))) (.pair (.pair .lit (.pair (.own .lit) .lit)) (.pair (.own (.pair (.pair .lit (.pair (.own .lit) .lit)) (.pair .lit (.pair (.own .lit) .lit)))) (.pair (.own .lit) (.pair (.own (.pair .lit (.pair .lit (.pair .lit (.pair (.pair .lit (.pair (.own .lit) .lit)) (.pair (.own .lit) .lit)))))) (.pair (.own .lit) .lit)))))) .lit) .lit)⟩),
  (160, ⟨[.own, .bor], (.pair (.tc Y_impl_Chain (.tc .bool .unit)) .unit), (.pair (.pair (.pair (.pair .lit (.pair (.own .lit) (.pair (.own .lit) .lit))) (.pair (.pair .lit (.pair (.own .lit) .lit)) (.pair (.own (.pair (.pair .lit (.pair (.own .lit) .lit)) (.pair .lit (.pair (.own .lit) .lit)))) (.pair (.own .lit) (.pair (.own (.pair .lit (.pair .lit (.pair .lit (.pair (.pair .lit (.pair (.own .lit) .lit)) (.pair (.own .lit) .lit)))))) (.pair (.own .lit) .lit)))))) .lit) .lit)⟩),
  (161, ⟨[.own, .bor], (.pair (.tc Y_impl_Chain (.tc .bool .unit)) .unit), (.pair (.pair (.pair (.pair .lit (.pair (.own .lit) (.pair (.own .lit) .lit))) (.pair (.pair .lit (.pair (.own .lit) .lit)) (.pair (.own (.pair (.pair .lit (.pair (.own .lit) .lit)) (.pair .lit (.pair (.own .lit) .lit)))) (.pair (.own .lit) (.pair (.own (.pair .lit (.pair .lit (.pair .lit (.pair (.pair .lit (.pair (.own .lit) .lit)) (.pair (.own .lit) .lit)))))) (.pair (.own .lit) .lit)))))) .lit) .lit)⟩),
  (170, ⟨[.bor], (.pair .bool .unit), .lit⟩),
  (171, ⟨[.bor, .bor], (.pair (.tc (.sl Y_impl_Pair) (.tc .bool .unit)) .unit), (.pair (.pair (.own .lit) .lit) .lit)⟩),
  (172, ⟨[.bor, .bor, .bor], (.pair (.tc (.sl Y_impl_Pair) (.tc .bool .unit)) .unit), (.pair (.pair (.own .lit) .lit) .lit)⟩),
  (173, ⟨[.bor, .bor, .bor, .bor], (.pair (.sl Y_impl_Session) .unit), (.pair (.own .lit) .lit)⟩),
  (174, ⟨[.io, .bor], (.pair .str (.tc (.bx Y_spec_l20Rd) .unit)), (.pair .lit (.pair (.own (.pair (.ro [(10000000, 0)]) .lit)) .lit))⟩),
  (175, ⟨[.bor, .bor, .bor], (.pair (.sl Y_impl_Pair) .unit), (.pair (.own .lit) .lit)⟩),
  (176, ⟨[.bor, .bor, .bor], (.pair (.tc (.sl Y_impl_Pair) (.tc .bool .unit)) .unit), (.pair (.pair (.own .lit) .lit) .lit)⟩),
  (177, ⟨[.io, .bor], (.pair (.int .i64) (.tc (.bx Y_spec_l20Rd) .unit)), (.pair .lit (.pair (.own (.pair (.ro [(10000000, 0)]) .lit)) .lit))⟩),
  (178, ⟨[.bor], (.pair .str .unit), .lit⟩),
  (179, ⟨[.io, .bor], (.pair Y_impl_Session (.tc (.bx Y_spec_l20Rd) .unit)), (.pair .lit (.pair (.own (.pair (.ro [(10000000, 0)]) .lit)) .lit))⟩),
  (180, ⟨[.bor], (.pair (.sl (.int .i64)) .unit), (.pair (.own .lit) .lit)⟩),
  (181, ⟨[.bor], (.pair Y_impl_Message .unit), (.pair (.pair .lit (.pair .lit (.pair .lit (.pair (.pair .lit (.pair (.own .lit) .lit)) (.pair (.own .lit) .lit))))) .lit)⟩),
  (182, ⟨[.bor, .bor], (.pair (.tc (.sl Y_impl_Pair) (.tc .bool .unit)) .unit), (.pair (.pair (.own .lit) .lit) .lit)⟩),
  (183, ⟨[.bor, .bor], (.pair (.int .i64) .unit), .lit⟩),
  (184, ⟨[.bor, .bor], (.pair (.tc (.sl Y_impl_Message) (.tc .bool .unit)) .unit), (.pair (.pair (.own (.pair .lit (.pair .lit (.pair .lit (.pair (.pair .lit (.pair (.own .lit) .lit)) (.pair (.own .lit) .lit)))))) .lit) .lit)⟩),
  (185, ⟨[.bor, .bor], (.pair (.tc Y_impl_Message (.tc (.sl Y_impl_Message) (.tc .bool .unit))) .unit), (.pair (.pair (.pair .lit (.pair .lit (.pair .lit (.pair (.pair .lit (.pair (.own .lit) .lit)) (.pair (.own .lit) .lit))))) (.pair (.own (.pair .lit (.pair .lit (.pair .lit (.pair (.pair .lit (.pair (.own .lit) .lit)) (.pair (.own .lit) .lit)))))) .lit)) .lit)⟩),
  (186, ⟨[.bor, .bor, .bor], (.pair (.tc Y_impl_Replica (.tc .bool .unit)) .unit), (.pair (.pair (.pair (.pair .lit (.pair (.own .lit) .lit)) (.pair .lit (.pair (.own .lit) .lit))) .lit) .lit)⟩),
  (187, ⟨[.bor, .bor, .bor], (.pair (.tc Y_impl_Replica (.tc .bool .unit)) .unit), (.pair (.pair (.pair (.pair .lit (.pair (.own .lit) .lit)) (.pair .lit (.pair (.own .lit) .lit))) .lit) .lit)⟩),
  (188, ⟨[.bor, .bor], (.pair (.tc (.sl Y_impl_Message) (.tc .bool .unit)) .unit), (.pair (.pair (.own (.pair .lit (.pair .lit (.pair .lit (.pair (.pair .lit (.pair (.own .lit) .lit)) (.pair (.own .lit) .lit)))))) .lit) .lit)⟩),
  (189, ⟨[.bor, .bor, .bor], (.pair (.tc Y_impl_Replica (.tc .bool .unit)) .unit), (.pair (.pair (.pair (.pair .lit (.pair (.own .lit) .lit)) (.pair .lit (.pair (.own .lit) .lit))) .lit) .lit)⟩),
  (190, ⟨[.bor, .bor], (.pair (.int .i64) .unit), .lit⟩),
  (191, ⟨[.bor, .bor], (.pair .bool .unit), .lit⟩),
  (202, ⟨[.bor, .bor, .bor, .bor], (.pair (.sl Y_impl_Pair) .unit), (.pair (.own .lit) .lit)⟩),
  (203, ⟨[.bor], (.pair (.int .i64) .unit), .lit⟩),
  (204, ⟨[.bor, .bor], (.pair (.int .i64) .unit), .lit⟩)]
def STl : List (Nat × List (Nat × List Nat)) := [(3, [(11, [3, 4, 5, 6, 7])]),
  (4, [(13, [3, 4, 7, 8])]),
  (7, [(4, [1, 2, 5])]),
  (8, [(4, [1, 2, 5])]),
  (9, [(4, [1, 36, 37, 38]), (10, [1, 56, 57, 58])]),
  (14, [(6, [1, 3, 4, 23, 24, 25]), (12, [1, 3, 4, 7, 23, 24, 25, 48, 49, 50]), (20, [11, 74, 75, 76])]),
  (26, [(4, [1, 3]), (9, [1, 4]), (14, [1, 5])]),
  (27, [(4, [1, 25, 26, 27])]),
  (28, [(5, [1, 34, 35, 36])]),
  (29, [(4, [8, 9, 10])]),
  (31, [(4, [8, 9, 10])]),
  (35, [(3, [3, 6, 7, 8])]),
  (38, [(6, [4, 6, 7, 22, 23, 24])]),
  (39, [(2, [0, 5, 6, 7])]),
  (42, [(5, [0, 4, 7]), (23, [0, 4, 7])]),
  (44, [(5, [1, 2, 3, 4]), (9, [1, 2, 3, 5]), (14, [1, 2, 3, 6, 7]), (19, [1, 2, 3, 6, 8])]),
  (46, [(3, [1, 3, 4])]),
  (47, [(6, [1, 4, 6, 7, 8])]),
  (50, [(4, [0, 1, 4, 6, 7, 8]), (9, [0, 1, 4, 6, 7, 8, 9, 10])]),
  (59, [(4, [1, 3])]),
  (60, [(4, [1, 3]), (9, [1, 3, 4])]),
  (61, [(2, [0, 3])]),
  (65, [(4, [0, 8, 9, 10])]),
  (72, [(4, [8, 9, 10])]),
  (77, [(2, [0, 1, 5])]),
  (78, [(4, [0, 3])]),
  (79, [(4, [0, 1, 12, 13])]),
  (83, [(3, [0, 1, 2, 8, 9, 10])]),
  (86, [(5, [1, 4, 5, 6])]),
  (88, [(4, [0, 1, 4, 5]), (10, [0, 1, 4, 6])]),
  (89, [(3, [0, 1, 4, 5, 6]), (10, [0, 1, 4, 5, 6]), (14, [0, 1, 4, 5])]),
  (90, [(4, [0, 1, 4, 5]), (6, [0, 1, 4, 5])]),
  (91, [(5, [0, 1, 5, 6]), (10, [0, 5])]),
  (94, [(3, [0, 1, 5, 6]), (8, [0, 1, 5, 6, 7]), (15, [0, 5])]),
  (95, [(3, [1, 2, 3, 4])]),
  (97, [(2, [0, 3])]),
  (99, [(15, [2, 3, 4, 6, 11]), (16, [2, 3, 4, 6, 11, 12])]),
  (100, [(6, [4, 5, 6, 7])]),
  (102, [(5, [0, 1, 5, 6, 7, 8])]),
  (103, [(8, [0, 2, 6, 7, 8, 9, 10, 11])]),
  (104, [(5, [1, 5, 6, 7, 8]), (9, [1, 5, 6, 7, 9]), (12, [5, 6, 7])]),
  (105, [(14, [3, 4, 6])]),
  (118, [(2, [0, 3])]),
  (126, [(2, [0, 1, 7, 8])]),
  (130, [(3, [0, 1, 2, 8, 9, 10])]),
  (133, [(4, [0, 3])]),
  (143, [(3, [0, 1, 5, 6]), (9, [0, 1, 5, 9]), (13, [0, 1, 5])]),
  (144, [(3, [0, 1, 5, 6])]),
  (146, [(9, [2, 4, 6, 9])]),
  (148, [(8, [0, 1, 4, 6])]),
  (152, [(3, [0, 1, 5, 6])]),
  (154, [(2, [0, 1, 4, 5])]),
  (156, [(8, [0, 3, 6, 7, 8]), (13, [0, 3, 6, 7, 8])]),
  (157, [(2, [1, 2, 5])]),
  (161, [(24, [2, 4, 6, 15, 16])]),
  (174, [(7, [0, 5, 6])]),
  (175, [(5, [0, 2, 4, 7, 8])]),
  (176, [(9, [0, 1, 2, 8, 9])]),
  (178, [(5, [0, 3, 4])])]
def TKl : List (Nat × List (Nat × List Nat)) := [(42, [(14, [16803])]),
  (89, [(15, [123984])]),
  (102, [(10, [82512])])]
def HLl : List (Nat × List (Nat × List Nat)) := []
def isIn (n : Nat) : Option (List Nat) → Bool
  | some l => l.any (Nat.beq n)
  | none => false
noncomputable instance : Cx := ⟨Tryz.prog, fun f => look f FTl, fun t => look t TBl, fun f => look f SGl, fun f r => (look f STl).bind (look r), fun f r n => isIn n ((look f TKl).bind (look r)), fun f r n => isIn n ((look f HLl).bind (look r)), fun f r => ((look f HLl).bind (look r)).getD []⟩
def AllP {α : Type} (p : Nat → α → Prop) : List (Nat × α) → Prop
  | [] => True
  | x :: l => p x.1 x.2 ∧ AllP p l
theorem look_all {α : Type} {p : Nat → α → Prop} {k : Nat} {y : α} : ∀ {l : List (Nat × α)}, AllP p l → look k l = some y → p k y
  | x :: l, h, e => by
    simp only [look] at e
    cases b : Nat.beq x.1 k with
    | true => rw [b] at e; obtain rfl := Option.some.inj e; have := Nat.eq_of_beq_eq_true b; subst this; exact h.1
    | false => rw [b] at e; exact look_all h.2 e
theorem td3 : TD Tryz.prog (.int .i64) 3 := ⟨Tryz.underlying3, ⟨Tryz.t3, by kernel_rfl, by kernel_rfl, fun _ => ⟨.int .i64 0, by kernel_rfl, by kernel_rfl⟩⟩⟩
theorem td4 : TD Tryz.prog .bool 4 := ⟨Tryz.underlying4, ⟨Tryz.t4, by kernel_rfl, by kernel_rfl, fun _ => ⟨.bool false, by kernel_rfl, by kernel_rfl⟩⟩⟩
theorem td5 : TD Tryz.prog (.int .u8) 5 := ⟨Tryz.underlying5, ⟨Tryz.t5, by kernel_rfl, by kernel_rfl, fun _ => ⟨.int .u8 0, by kernel_rfl, by kernel_rfl⟩⟩⟩
theorem td9 : TD Tryz.prog .str 9 := ⟨Tryz.underlying9, ⟨Tryz.t9, by kernel_rfl, by kernel_rfl, fun _ => ⟨.string ⟨#[]⟩, by kernel_rfl, by kernel_rfl⟩⟩⟩
theorem td22 : TD Tryz.prog (.sl (.int .u8)) 22 := ⟨5, Tryz.underlying22, ⟨Tryz.t22, by kernel_rfl, by kernel_rfl, fun _ => ⟨.slice none 0 0, by kernel_rfl, by kernel_rfl⟩⟩, td5⟩
theorem td24 : TD Tryz.prog Y_impl_Interval 24 := ⟨_, Tryz.underlying24, ⟨Tryz.t24, by kernel_rfl, by kernel_rfl, fun _ => ⟨.agg #[.string ⟨#[]⟩, .string ⟨#[]⟩], by kernel_rfl, by kernel_rfl⟩⟩, ⟨rfl, by decide, td9, ⟨rfl, by decide, td9, trivial⟩⟩, by kernel_rfl, by kernel_rfl⟩
theorem td111 : TD Tryz.prog Y_impl_Pair 111 := ⟨_, Tryz.underlying111, ⟨Tryz.t111, by kernel_rfl, by kernel_rfl, fun _ => ⟨.agg #[.string ⟨#[]⟩, .int .i64 0], by kernel_rfl, by kernel_rfl⟩⟩, ⟨rfl, by decide, td9, ⟨rfl, by decide, td3, trivial⟩⟩, by kernel_rfl, by kernel_rfl⟩
theorem td25 : TD Tryz.prog (.sl Y_impl_Pair) 25 := ⟨111, Tryz.underlying25, ⟨Tryz.t25, by kernel_rfl, by kernel_rfl, fun _ => ⟨.slice none 0 0, by kernel_rfl, by kernel_rfl⟩⟩, td111⟩
theorem td86 : TD Tryz.prog Y_impl_Session 86 := ⟨_, Tryz.underlying86, ⟨Tryz.t86, by kernel_rfl, by kernel_rfl, fun _ => ⟨.agg #[.int .i64 0, .int .i64 0, .int .i64 0], by kernel_rfl, by kernel_rfl⟩⟩, ⟨rfl, by decide, td3, ⟨rfl, by decide, td3, ⟨rfl, by decide, td3, trivial⟩⟩⟩, by kernel_rfl, by kernel_rfl⟩
theorem td26 : TD Tryz.prog (.sl Y_impl_Session) 26 := ⟨86, Tryz.underlying26, ⟨Tryz.t26, by kernel_rfl, by kernel_rfl, fun _ => ⟨.slice none 0 0, by kernel_rfl, by kernel_rfl⟩⟩, td86⟩
theorem td28 : TD Tryz.prog Y_impl_State 28 := ⟨_, Tryz.underlying28, ⟨Tryz.t28, by kernel_rfl, by kernel_rfl, fun _ => ⟨.agg #[.string ⟨#[]⟩, .string ⟨#[]⟩, .slice none 0 0, .slice none 0 0, .bool false, .string ⟨#[]⟩], by kernel_rfl, by kernel_rfl⟩⟩, ⟨rfl, by decide, td24, ⟨rfl, by decide, td25, ⟨rfl, by decide, td26, ⟨rfl, by decide, td4, ⟨rfl, by decide, td9, trivial⟩⟩⟩⟩⟩, by kernel_rfl, by kernel_rfl⟩
theorem td29 : TD Tryz.prog (.sl (.int .i64)) 29 := ⟨3, Tryz.underlying29, ⟨Tryz.t29, by kernel_rfl, by kernel_rfl, fun _ => ⟨.slice none 0 0, by kernel_rfl, by kernel_rfl⟩⟩, td3⟩
theorem td31 : TD Tryz.prog Y_impl_Config 31 := ⟨_, Tryz.underlying31, ⟨Tryz.t31, by kernel_rfl, by kernel_rfl, fun _ => ⟨.agg #[.int .i64 0, .slice none 0 0, .bool false], by kernel_rfl, by kernel_rfl⟩⟩, ⟨rfl, by decide, td3, ⟨rfl, by decide, td29, ⟨rfl, by decide, td4, trivial⟩⟩⟩, by kernel_rfl, by kernel_rfl⟩
theorem td48 : TD Tryz.prog Y_impl_Command 48 := ⟨_, Tryz.underlying48, ⟨Tryz.t48, by kernel_rfl, by kernel_rfl, fun _ => ⟨.agg #[.int .i64 0, .string ⟨#[]⟩, .int .i64 0, .int .i64 0], by kernel_rfl, by kernel_rfl⟩⟩, ⟨rfl, by decide, td3, ⟨rfl, by decide, td9, ⟨rfl, by decide, td3, ⟨rfl, by decide, td3, trivial⟩⟩⟩⟩, by kernel_rfl, by kernel_rfl⟩
theorem td50 : TD Tryz.prog Y_impl_Entry 50 := ⟨_, Tryz.underlying50, ⟨Tryz.t50, by kernel_rfl, by kernel_rfl, fun _ => ⟨.agg #[.int .i64 0, .int .i64 0, .int .i64 0, .string ⟨#[]⟩, .int .i64 0, .int .i64 0], by kernel_rfl, by kernel_rfl⟩⟩, ⟨rfl, by decide, td3, ⟨rfl, by decide, td3, ⟨rfl, by decide, td48, trivial⟩⟩⟩, by kernel_rfl, by kernel_rfl⟩
theorem td68 : TD Tryz.prog (.sl Y_impl_Entry) 68 := ⟨50, Tryz.underlying68, ⟨Tryz.t68, by kernel_rfl, by kernel_rfl, fun _ => ⟨.slice none 0 0, by kernel_rfl, by kernel_rfl⟩⟩, td50⟩
theorem td70 : TD Tryz.prog Y_impl_Replica 70 := ⟨_, Tryz.underlying70, ⟨Tryz.t70, by kernel_rfl, by kernel_rfl, fun _ => ⟨.agg #[.int .i64 0, .slice none 0 0, .bool false, .bool false, .slice none 0 0], by kernel_rfl, by kernel_rfl⟩⟩, ⟨rfl, by decide, td31, ⟨rfl, by decide, td4, ⟨rfl, by decide, td68, trivial⟩⟩⟩, by kernel_rfl, by kernel_rfl⟩
theorem td32 : TD Tryz.prog (.sl Y_impl_Replica) 32 := ⟨70, Tryz.underlying32, ⟨Tryz.t32, by kernel_rfl, by kernel_rfl, fun _ => ⟨.slice none 0 0, by kernel_rfl, by kernel_rfl⟩⟩, td70⟩
theorem td33 : TD Tryz.prog (.sl .bool) 33 := ⟨4, Tryz.underlying33, ⟨Tryz.t33, by kernel_rfl, by kernel_rfl, fun _ => ⟨.slice none 0 0, by kernel_rfl, by kernel_rfl⟩⟩, td4⟩
theorem td73 : TD Tryz.prog Y_impl_Message 73 := ⟨_, Tryz.underlying73, ⟨Tryz.t73, by kernel_rfl, by kernel_rfl, fun _ => ⟨.agg #[.int .i64 0, .int .i64 0, .int .i64 0, .int .i64 0, .slice none 0 0, .bool false, .slice none 0 0], by kernel_rfl, by kernel_rfl⟩⟩, ⟨rfl, by decide, td3, ⟨rfl, by decide, td3, ⟨rfl, by decide, td3, ⟨rfl, by decide, td31, ⟨rfl, by decide, td68, trivial⟩⟩⟩⟩⟩, by kernel_rfl, by kernel_rfl⟩
theorem td34 : TD Tryz.prog (.sl Y_impl_Message) 34 := ⟨73, Tryz.underlying34, ⟨Tryz.t34, by kernel_rfl, by kernel_rfl, fun _ => ⟨.slice none 0 0, by kernel_rfl, by kernel_rfl⟩⟩, td73⟩
theorem td52 : TD Tryz.prog Y_impl_Answer 52 := ⟨_, Tryz.underlying52, ⟨Tryz.t52, by kernel_rfl, by kernel_rfl, fun _ => ⟨.agg #[.int .i64 0, .int .i64 0, .int .i64 0, .string ⟨#[]⟩, .int .i64 0, .int .i64 0, .int .i64 0], by kernel_rfl, by kernel_rfl⟩⟩, ⟨rfl, by decide, td50, ⟨rfl, by decide, td3, trivial⟩⟩, by kernel_rfl, by kernel_rfl⟩
theorem td35 : TD Tryz.prog (.sl Y_impl_Answer) 35 := ⟨52, Tryz.underlying35, ⟨Tryz.t35, by kernel_rfl, by kernel_rfl, fun _ => ⟨.slice none 0 0, by kernel_rfl, by kernel_rfl⟩⟩, td52⟩
theorem td37 : TD Tryz.prog Y_impl_Chain 37 := ⟨_, Tryz.underlying37, ⟨Tryz.t37, by kernel_rfl, by kernel_rfl, fun _ => ⟨.agg #[.string ⟨#[]⟩, .string ⟨#[]⟩, .slice none 0 0, .slice none 0 0, .bool false, .string ⟨#[]⟩, .int .i64 0, .slice none 0 0, .bool false, .slice none 0 0, .slice none 0 0, .slice none 0 0, .slice none 0 0], by kernel_rfl, by kernel_rfl⟩⟩, ⟨rfl, by decide, td28, ⟨rfl, by decide, td31, ⟨rfl, by decide, td32, ⟨rfl, by decide, td33, ⟨rfl, by decide, td34, ⟨rfl, by decide, td35, trivial⟩⟩⟩⟩⟩⟩, by kernel_rfl, by kernel_rfl⟩
theorem td97 : TD Tryz.prog Y_impl_Event 97 := ⟨_, Tryz.underlying97, ⟨Tryz.t97, by kernel_rfl, by kernel_rfl, fun _ => ⟨.agg #[.int .i64 0, .int .i64 0, .int .i64 0, .int .i64 0, .int .i64 0, .int .i64 0, .string ⟨#[]⟩, .int .i64 0, .int .i64 0], by kernel_rfl, by kernel_rfl⟩⟩, ⟨rfl, by decide, td3, ⟨rfl, by decide, td3, ⟨rfl, by decide, td3, ⟨rfl, by decide, td50, trivial⟩⟩⟩⟩, by kernel_rfl, by kernel_rfl⟩
theorem td59 : TD Tryz.prog (.sl Y_impl_Event) 59 := ⟨97, Tryz.underlying59, ⟨Tryz.t59, by kernel_rfl, by kernel_rfl, fun _ => ⟨.slice none 0 0, by kernel_rfl, by kernel_rfl⟩⟩, td97⟩
theorem td87 : TD Tryz.prog (.bx Y_spec_l20Rd) 87 := ⟨129, Tryz.underlying87, ⟨Tryz.t87, by kernel_rfl, by kernel_rfl, fun h => by cases h⟩⟩
theorem td129 : TD Tryz.prog Y_spec_l20Rd 129 := ⟨_, Tryz.underlying129, ⟨Tryz.t129, by kernel_rfl, by kernel_rfl, fun _ => ⟨.agg #[.slice none 0 0, .int .i64 0], by kernel_rfl, by kernel_rfl⟩⟩, ⟨rfl, by decide, td22, ⟨rfl, by decide, td3, trivial⟩⟩, by kernel_rfl, by kernel_rfl⟩
theorem td164 : TD Tryz.prog (.int .u64) 164 := ⟨Tryz.underlying164, ⟨Tryz.t164, by kernel_rfl, by kernel_rfl, fun _ => ⟨.int .u64 0, by kernel_rfl, by kernel_rfl⟩⟩⟩
theorem td171 : TD Tryz.prog (.sl Y_impl_Config) 171 := ⟨31, Tryz.underlying171, ⟨Tryz.t171, by kernel_rfl, by kernel_rfl, fun _ => ⟨.slice none 0 0, by kernel_rfl, by kernel_rfl⟩⟩, td31⟩
theorem td178 : TD Tryz.prog (.sl (.sl (.int .i64))) 178 := ⟨29, Tryz.underlying178, ⟨Tryz.t178, by kernel_rfl, by kernel_rfl, fun _ => ⟨.slice none 0 0, by kernel_rfl, by kernel_rfl⟩⟩, td29⟩
theorem td187 : TD Tryz.prog (.sl Y_impl_Interval) 187 := ⟨24, Tryz.underlying187, ⟨Tryz.t187, by kernel_rfl, by kernel_rfl, fun _ => ⟨.slice none 0 0, by kernel_rfl, by kernel_rfl⟩⟩, td24⟩
theorem td192 : TD Tryz.prog (.sl .str) 192 := ⟨9, Tryz.underlying192, ⟨Tryz.t192, by kernel_rfl, by kernel_rfl, fun _ => ⟨.slice none 0 0, by kernel_rfl, by kernel_rfl⟩⟩, td9⟩
theorem td193 : TD Tryz.prog (.sl Y_impl_Command) 193 := ⟨48, Tryz.underlying193, ⟨Tryz.t193, by kernel_rfl, by kernel_rfl, fun _ => ⟨.slice none 0 0, by kernel_rfl, by kernel_rfl⟩⟩, td48⟩
theorem tb_all : AllP (fun t (ti : TI) => TD Tryz.prog ti.ty t ∧ ∀ a, ti.ty = .sl a → ∃ e i, Tryz.prog.underlying t = some (.slice e) ∧ Tryz.prog.info? e = some i ∧ i.bytes = ti.eb) TBl := ⟨⟨td3, fun _ h => by cases h⟩, ⟨⟨td4, fun _ h => by cases h⟩, ⟨⟨td5, fun _ h => by cases h⟩, ⟨⟨td9, fun _ h => by cases h⟩, ⟨⟨td22, fun _ h => ⟨5, Tryz.t5, Tryz.underlying22, by kernel_rfl, by kernel_rfl⟩⟩, ⟨⟨td24, fun _ h => by cases h⟩, ⟨⟨td25, fun _ h => ⟨111, Tryz.t111, Tryz.underlying25, by kernel_rfl, by kernel_rfl⟩⟩, ⟨⟨td26, fun _ h => ⟨86, Tryz.t86, Tryz.underlying26, by kernel_rfl, by kernel_rfl⟩⟩, ⟨⟨td28, fun _ h => by cases h⟩, ⟨⟨td29, fun _ h => ⟨3, Tryz.t3, Tryz.underlying29, by kernel_rfl, by kernel_rfl⟩⟩, ⟨⟨td31, fun _ h => by cases h⟩, ⟨⟨td32, fun _ h => ⟨70, Tryz.t70, Tryz.underlying32, by kernel_rfl, by kernel_rfl⟩⟩, ⟨⟨td33, fun _ h => ⟨4, Tryz.t4, Tryz.underlying33, by kernel_rfl, by kernel_rfl⟩⟩, ⟨⟨td34, fun _ h => ⟨73, Tryz.t73, Tryz.underlying34, by kernel_rfl, by kernel_rfl⟩⟩, ⟨⟨td35, fun _ h => ⟨52, Tryz.t52, Tryz.underlying35, by kernel_rfl, by kernel_rfl⟩⟩, ⟨⟨td37, fun _ h => by cases h⟩, ⟨⟨td48, fun _ h => by cases h⟩, ⟨⟨td50, fun _ h => by cases h⟩, ⟨⟨td52, fun _ h => by cases h⟩, ⟨⟨td59, fun _ h => ⟨97, Tryz.t97, Tryz.underlying59, by kernel_rfl, by kernel_rfl⟩⟩, ⟨⟨td68, fun _ h => ⟨50, Tryz.t50, Tryz.underlying68, by kernel_rfl, by kernel_rfl⟩⟩, ⟨⟨td70, fun _ h => by cases h⟩, ⟨⟨td73, fun _ h => by cases h⟩, ⟨⟨td86, fun _ h => by cases h⟩, ⟨⟨td87, fun _ h => by cases h⟩, ⟨⟨td97, fun _ h => by cases h⟩, ⟨⟨td111, fun _ h => by cases h⟩, ⟨⟨td129, fun _ h => by cases h⟩, ⟨⟨td164, fun _ h => by cases h⟩, ⟨⟨td171, fun _ h => ⟨31, Tryz.t31, Tryz.underlying171, by kernel_rfl, by kernel_rfl⟩⟩, ⟨⟨td178, fun _ h => ⟨29, Tryz.t29, Tryz.underlying178, by kernel_rfl, by kernel_rfl⟩⟩, ⟨⟨td187, fun _ h => ⟨24, Tryz.t24, Tryz.underlying187, by kernel_rfl, by kernel_rfl⟩⟩, ⟨⟨td192, fun _ h => ⟨9, Tryz.t9, Tryz.underlying192, by kernel_rfl, by kernel_rfl⟩⟩, ⟨⟨td193, fun _ h => ⟨48, Tryz.t48, Tryz.underlying193, by kernel_rfl, by kernel_rfl⟩⟩, trivial⟩⟩⟩⟩⟩⟩⟩⟩⟩⟩⟩⟩⟩⟩⟩⟩⟩⟩⟩⟩⟩⟩⟩⟩⟩⟩⟩⟩⟩⟩⟩⟩⟩⟩
theorem ft_all : AllP (fun f (fn : Func) => Tryz.prog.funcs[f]? = some fn ∧ (fn.name == "runtime.NumGoroutine") = false) FTl := ⟨⟨Tryz.func3, by kernel_rfl⟩, ⟨⟨Tryz.func4, by kernel_rfl⟩, ⟨⟨Tryz.func6, by kernel_rfl⟩, ⟨⟨Tryz.func7, by kernel_rfl⟩, ⟨⟨Tryz.func8, by kernel_rfl⟩, ⟨⟨Tryz.func9, by kernel_rfl⟩, ⟨⟨Tryz.func10, by kernel_rfl⟩, ⟨⟨Tryz.func11, by kernel_rfl⟩, ⟨⟨Tryz.func12, by kernel_rfl⟩, ⟨⟨Tryz.func13, by kernel_rfl⟩, ⟨⟨Tryz.func14, by kernel_rfl⟩, ⟨⟨Tryz.func15, by kernel_rfl⟩, ⟨⟨Tryz.func16, by kernel_rfl⟩, ⟨⟨Tryz.func17, by kernel_rfl⟩, ⟨⟨Tryz.func18, by kernel_rfl⟩, ⟨⟨Tryz.func26, by kernel_rfl⟩, ⟨⟨Tryz.func27, by kernel_rfl⟩, ⟨⟨Tryz.func28, by kernel_rfl⟩, ⟨⟨Tryz.func29, by kernel_rfl⟩, ⟨⟨Tryz.func30, by kernel_rfl⟩, ⟨⟨Tryz.func31, by kernel_rfl⟩, ⟨⟨Tryz.func32, by kernel_rfl⟩, ⟨⟨Tryz.func33, by kernel_rfl⟩, ⟨⟨Tryz.func34, by kernel_rfl⟩, ⟨⟨Tryz.func35, by kernel_rfl⟩, ⟨⟨Tryz.func36, by kernel_rfl⟩, ⟨⟨Tryz.func37, by kernel_rfl⟩, ⟨⟨Tryz.func38, by kernel_rfl⟩, ⟨⟨Tryz.func39, by kernel_rfl⟩, ⟨⟨Tryz.func40, by kernel_rfl⟩, ⟨⟨Tryz.func41, by kernel_rfl⟩, ⟨⟨Tryz.func42, by kernel_rfl⟩, ⟨⟨Tryz.func43, by kernel_rfl⟩, ⟨⟨Tryz.func44, by kernel_rfl⟩, ⟨⟨Tryz.func45, by kernel_rfl⟩, ⟨⟨Tryz.func46, by kernel_rfl⟩, ⟨⟨Tryz.func47, by kernel_rfl⟩, ⟨⟨Tryz.func50, by kernel_rfl⟩, ⟨⟨Tryz.func58, by kernel_rfl⟩, ⟨⟨Tryz.func59, by kernel_rfl⟩, ⟨⟨Tryz.func60, by kernel_rfl⟩, ⟨⟨Tryz.func61, by kernel_rfl⟩, ⟨⟨Tryz.func62, by kernel_rfl⟩, ⟨⟨Tryz.func63, by kernel_rfl⟩, ⟨⟨Tryz.func64, by kernel_rfl⟩, ⟨⟨Tryz.func65, by kernel_rfl⟩, ⟨⟨Tryz.func66, by kernel_rfl⟩, ⟨⟨Tryz.func67, by kernel_rfl⟩, ⟨⟨Tryz.func68, by kernel_rfl⟩, ⟨⟨Tryz.func69, by kernel_rfl⟩, ⟨⟨Tryz.func70, by kernel_rfl⟩, ⟨⟨Tryz.func71, by kernel_rfl⟩, ⟨⟨Tryz.func72, by kernel_rfl⟩, ⟨⟨Tryz.func73, by kernel_rfl⟩, ⟨⟨Tryz.func74, by kernel_rfl⟩, ⟨⟨Tryz.func75, by kernel_rfl⟩, ⟨⟨Tryz.func76, by kernel_rfl⟩, ⟨⟨Tryz.func77, by kernel_rfl⟩, ⟨⟨Tryz.func78, by kernel_rfl⟩, ⟨⟨Tryz.func79, by kernel_rfl⟩, ⟨⟨Tryz.func80, by kernel_rfl⟩, ⟨⟨Tryz.func81, by kernel_rfl⟩, ⟨⟨Tryz.func82, by kernel_rfl⟩, ⟨⟨Tryz.func83, by kernel_rfl⟩, ⟨⟨Tryz.func84, by kernel_rfl⟩, ⟨⟨Tryz.func85, by kernel_rfl⟩, ⟨⟨Tryz.func86, by kernel_rfl⟩, ⟨⟨Tryz.func87, by kernel_rfl⟩, ⟨⟨Tryz.func88, by kernel_rfl⟩, ⟨⟨Tryz.func89, by kernel_rfl⟩, ⟨⟨Tryz.func90, by kernel_rfl⟩, ⟨⟨Tryz.func91, by kernel_rfl⟩, ⟨⟨Tryz.func92, by kernel_rfl⟩, ⟨⟨Tryz.func93, by kernel_rfl⟩, ⟨⟨Tryz.func94, by kernel_rfl⟩, ⟨⟨Tryz.func95, by kernel_rfl⟩, ⟨⟨Tryz.func96, by kernel_rfl⟩, ⟨⟨Tryz.func97, by kernel_rfl⟩, ⟨⟨Tryz.func98, by kernel_rfl⟩, ⟨⟨Tryz.func99, by kernel_rfl⟩, ⟨⟨Tryz.func100, by kernel_rfl⟩, ⟨⟨Tryz.func101, by kernel_rfl⟩, ⟨⟨Tryz.func102, by kernel_rfl⟩, ⟨⟨Tryz.func103, by kernel_rfl⟩, ⟨⟨Tryz.func104, by kernel_rfl⟩, ⟨⟨Tryz.func105, by kernel_rfl⟩, ⟨⟨Tryz.func117, by kernel_rfl⟩, ⟨⟨Tryz.func118, by kernel_rfl⟩, ⟨⟨Tryz.func119, by kernel_rfl⟩, ⟨⟨Tryz.func120, by kernel_rfl⟩, ⟨⟨Tryz.func121, by kernel_rfl⟩, ⟨⟨Tryz.func122, by kernel_rfl⟩, ⟨⟨Tryz.func123, by kernel_rfl⟩, ⟨⟨Tryz.func124, by kernel_rfl⟩, ⟨⟨Tryz.func125, by kernel_rfl⟩, ⟨⟨Tryz.func126, by kernel_rfl⟩, ⟨⟨Tryz.func127, by kernel_rfl⟩, ⟨⟨Tryz.func128, by kernel_rfl⟩, ⟨⟨Tryz.func129, by kernel_rfl⟩, ⟨⟨Tryz.func130, by kernel_rfl⟩, ⟨⟨Tryz.func131, by kernel_rfl⟩, ⟨⟨Tryz.func132, by kernel_rfl⟩, ⟨⟨Tryz.func133, by kernel_rfl⟩, ⟨⟨Tryz.func134, by kernel_rfl⟩, ⟨⟨Tryz.func135, by kernel_rfl⟩, ⟨⟨Tryz.func136, by kernel_rfl⟩, ⟨⟨Tryz.func137, by kernel_rfl⟩, ⟨⟨Tryz.func138, by kernel_rfl⟩, ⟨⟨Tryz.func139, by kernel_rfl⟩, ⟨⟨Tryz.func140, by kernel_rfl⟩, ⟨⟨Tryz.func141, by kernel_rfl⟩, ⟨⟨Tryz.func142, by kernel_rfl⟩, ⟨⟨Tryz.func143, by kernel_rfl⟩, ⟨⟨Tryz.func144, by kernel_rfl⟩, ⟨⟨Tryz.func145, by kernel_rfl⟩, ⟨⟨Tryz.func146, by kernel_rfl⟩, ⟨⟨Tryz.func147, by kernel_rfl⟩, ⟨⟨Tryz.func148, by kernel_rfl⟩, ⟨⟨Tryz.func149, by kernel_rfl⟩, ⟨⟨Tryz.func150, by kernel_rfl⟩, ⟨⟨Tryz.func151, by kernel_rfl⟩, ⟨⟨Tryz.func152, by kernel_rfl⟩, ⟨⟨Tryz.func153, by kernel_rfl⟩, ⟨⟨Tryz.func154, by kernel_rfl⟩, ⟨⟨Tryz.func155, by kernel_rfl⟩, ⟨⟨Tryz.func156, by kernel_rfl⟩, ⟨⟨Tryz.func157, by kernel_rfl⟩, ⟨⟨Tryz.func158, by kernel_rfl⟩, ⟨⟨Tryz.func159, by kernel_rfl⟩, ⟨⟨Tryz.func160, by kernel_rfl⟩, ⟨⟨Tryz.func161, by kernel_rfl⟩, ⟨⟨Tryz.func170, by kernel_rfl⟩, ⟨⟨Tryz.func171, by kernel_rfl⟩, ⟨⟨Tryz.func172, by kernel_rfl⟩, ⟨⟨Tryz.func173, by kernel_rfl⟩, ⟨⟨Tryz.func174, by kernel_rfl⟩, ⟨⟨Tryz.func175, by kernel_rfl⟩, ⟨⟨Tryz.func176, by kernel_rfl⟩, ⟨⟨Tryz.func177, by kernel_rfl⟩, ⟨⟨Tryz.func178, by kernel_rfl⟩, ⟨⟨Tryz.func179, by kernel_rfl⟩, ⟨⟨Tryz.func180, by kernel_rfl⟩, ⟨⟨Tryz.func181, by kernel_rfl⟩, ⟨⟨Tryz.func182, by kernel_rfl⟩, ⟨⟨Tryz.func183, by kernel_rfl⟩, ⟨⟨Tryz.func184, by kernel_rfl⟩, ⟨⟨Tryz.func185, by kernel_rfl⟩, ⟨⟨Tryz.func186, by kernel_rfl⟩, ⟨⟨Tryz.func187, by kernel_rfl⟩, ⟨⟨Tryz.func188, by kernel_rfl⟩, ⟨⟨Tryz.func189, by kernel_rfl⟩, ⟨⟨Tryz.func190, by kernel_rfl⟩, ⟨⟨Tryz.func191, by kernel_rfl⟩, ⟨⟨Tryz.func202, by kernel_rfl⟩, ⟨⟨Tryz.func203, by kernel_rfl⟩, ⟨⟨Tryz.func204, by kernel_rfl⟩, trivial⟩⟩⟩⟩⟩⟩⟩⟩⟩⟩⟩⟩⟩⟩⟩⟩⟩⟩⟩⟩⟩⟩⟩⟩⟩⟩⟩⟩⟩⟩⟩⟩⟩⟩⟩⟩⟩⟩⟩⟩⟩⟩⟩⟩⟩⟩⟩⟩⟩⟩⟩⟩⟩⟩⟩⟩⟩⟩⟩⟩⟩⟩⟩⟩⟩⟩⟩⟩⟩⟩⟩⟩⟩⟩⟩⟩⟩⟩⟩⟩⟩⟩⟩⟩⟩⟩⟩⟩⟩⟩⟩⟩⟩⟩⟩⟩⟩⟩⟩⟩⟩⟩⟩⟩⟩⟩⟩⟩⟩⟩⟩⟩⟩⟩⟩⟩⟩⟩⟩⟩⟩⟩⟩⟩⟩⟩⟩⟩⟩⟩⟩⟩⟩⟩⟩⟩⟩⟩⟩⟩⟩⟩⟩⟩⟩⟩⟩⟩⟩⟩⟩⟩⟩⟩⟩⟩
theorem zz : ∀ i, tto i (tz i) = (TR i).dflt
  | 0 => rfl
  | 1 => rfl
  | 2 => rfl
  | 3 => rfl
  | 4 => rfl
  | 5 => rfl
  | 6 => rfl
  | 7 => rfl
  | 8 => rfl
  | 9 => rfl
  | 10 => rfl
  | 11 => rfl
  | 12 => rfl
  | 13 => rfl
  | 14 => rfl
  | 15 => rfl
  | 16 => rfl
  | 17 => rfl
  | 18 => rfl
  | 19 => rfl
  | 20 => rfl
  | 21 => rfl
  | 22 => rfl
  | 23 => rfl
  | 24 => rfl
  | 25 => rfl
  | 26 => rfl
  | 27 => rfl
  | 28 => rfl
  | 29 => rfl
  | 30 => rfl
  | 31 => rfl
  | _ + 32 => rfl
theorem good : Good := ⟨fun _ _ h => look_all ft_all h, fun _ _ h => look_all tb_all h, zz, by kernel_rfl⟩
def lit (l : List UInt8) : ByteArray := ⟨l.toArray⟩
def es : ByteArray := ⟨#[]⟩
/-- What is still to be done from a region on. -/
def conts : Code → List Item → Nat → Option (List Item)
  | .seq a b, k, r => match conts a (.code b :: k) r with
    | some x => some x
    | none => conts b k r
  | .cond _ x y, k, r => match conts x k r with
    | some x => some x
    | none => conts y k r
  | .block l b, k, r => conts b (.inBlock l :: k) r
  | .loop b, k, r => conts b (.inLoop b :: k) r
  | .region i ops draw, k, r => bif Nat.beq i r then some (.code (.region i ops draw) :: k) else none
  | _, _, _ => none
noncomputable def cont (f r : Nat) : List Item := match look f FTl with
  | some fn => match fn.body with
    | some c => (conts c [] r).getD []
    | none => []
  | none => []
end Go.Proofs.YtoiafcghelgpdaaGreat.Ev
