/- The program's types and functions as the evaluator's tables. No condition. -/
import Derived.Test.YthkdkojfahaeaaaGreatEngC
import Derived.Test.YthkdkojfahaeaaaGreatProg
set_option maxRecDepth 100000
namespace Go.Proofs.YthkdkojfahaeaaaGreat.Ev
open Go.Proofs.YthkdkojfahaeaaaGreat.Eng
/-- impl.Interval -/
structure impl_Interval where
  Low : ByteArray
  High : ByteArray
/-- impl.Pair -/
structure impl_Pair where
  Key : ByteArray
  Value : Int
/-- impl.Session -/
structure impl_Session where
  Client : Int
  Seq : Int
  Reply : Int
/-- impl.State -/
structure impl_State where
  Span : impl_Interval
  Pairs : (List impl_Pair)
  Known : (List impl_Session)
  Sealed : Bool
  Cut : ByteArray
/-- impl.Config -/
structure impl_Config where
  Epoch : Int
  Members : (List Int)
  Fresh : Bool
/-- impl.Command -/
structure impl_Command where
  Kind : Int
  Key : ByteArray
  Value : Int
  Old : Int
/-- impl.Entry -/
structure impl_Entry where
  Client : Int
  Seq : Int
  Cmd : impl_Command
/-- impl.Replica -/
structure impl_Replica where
  Conf : impl_Config
  Ready : Bool
  Log : (List impl_Entry)
/-- impl.Message -/
structure impl_Message where
  Kind : Int
  To : Int
  Epoch : Int
  Conf : impl_Config
  Log : (List impl_Entry)
/-- impl.Answer -/
structure impl_Answer where
  Asked : impl_Entry
  Reply : Int
/-- impl.Chain -/
structure impl_Chain where
  Base : impl_State
  Conf : impl_Config
  Nodes : (List impl_Replica)
  Up : (List Bool)
  Bag : (List impl_Message)
  Answers : (List impl_Answer)
/-- impl.Event -/
structure impl_Event where
  Kind : Int
  Node : Int
  Place : Int
  Sent : impl_Entry
/-- spec.l20Rd -/
structure spec_l20Rd where
  b : (List Int)
  p : Int
abbrev R_impl_Interval : Ty := (.pair .str (.pair .str .unit))
abbrev Y_impl_Interval : Ty := .st 10 R_impl_Interval
abbrev R_impl_Pair : Ty := (.pair .str (.pair (.int .i64) .unit))
abbrev Y_impl_Pair : Ty := .st 11 R_impl_Pair
abbrev R_impl_Session : Ty := (.pair (.int .i64) (.pair (.int .i64) (.pair (.int .i64) .unit)))
abbrev Y_impl_Session : Ty := .st 12 R_impl_Session
abbrev R_impl_State : Ty := (.pair Y_impl_Interval (.pair (.sl Y_impl_Pair) (.pair (.sl Y_impl_Session) (.pair .bool (.pair .str .unit)))))
abbrev Y_impl_State : Ty := .st 14 R_impl_State
abbrev R_impl_Config : Ty := (.pair (.int .i64) (.pair (.sl (.int .i64)) (.pair .bool .unit)))
abbrev Y_impl_Config : Ty := .st 16 R_impl_Config
abbrev R_impl_Command : Ty := (.pair (.int .i64) (.pair .str (.pair (.int .i64) (.pair (.int .i64) .unit))))
abbrev Y_impl_Command : Ty := .st 19 R_impl_Command
abbrev R_impl_Entry : Ty := (.pair (.int .i64) (.pair (.int .i64) (.pair Y_impl_Command .unit)))
abbrev Y_impl_Entry : Ty := .st 18 R_impl_Entry
abbrev R_impl_Replica : Ty := (.pair Y_impl_Config (.pair .bool (.pair (.sl Y_impl_Entry) .unit)))
abbrev Y_impl_Replica : Ty := .st 17 R_impl_Replica
abbrev R_impl_Message : Ty := (.pair (.int .i64) (.pair (.int .i64) (.pair (.int .i64) (.pair Y_impl_Config (.pair (.sl Y_impl_Entry) .unit)))))
abbrev Y_impl_Message : Ty := .st 20 R_impl_Message
abbrev R_impl_Answer : Ty := (.pair Y_impl_Entry (.pair (.int .i64) .unit))
abbrev Y_impl_Answer : Ty := .st 21 R_impl_Answer
abbrev R_impl_Chain : Ty := (.pair Y_impl_State (.pair Y_impl_Config (.pair (.sl Y_impl_Replica) (.pair (.sl .bool) (.pair (.sl Y_impl_Message) (.pair (.sl Y_impl_Answer) .unit))))))
abbrev Y_impl_Chain : Ty := .st 23 R_impl_Chain
abbrev R_impl_Event : Ty := (.pair (.int .i64) (.pair (.int .i64) (.pair (.int .i64) (.pair Y_impl_Entry .unit))))
abbrev Y_impl_Event : Ty := .st 24 R_impl_Event
abbrev R_spec_l20Rd : Ty := (.pair (.sl (.int .u8)) (.pair (.int .i64) .unit))
abbrev Y_spec_l20Rd : Ty := .st 25 R_spec_l20Rd
def TT : Nat → Type
  | 0 => Unit
  | 1 => Unit
  | 2 => Unit
  | 3 => Unit
  | 4 => Unit
  | 5 => Unit
  | 6 => Unit
  | 7 => Unit
  | 8 => Unit
  | 9 => Unit
  | 10 => impl_Interval
  | 11 => impl_Pair
  | 12 => impl_Session
  | 13 => Unit
  | 14 => impl_State
  | 15 => Unit
  | 16 => impl_Config
  | 17 => impl_Replica
  | 18 => impl_Entry
  | 19 => impl_Command
  | 20 => impl_Message
  | 21 => impl_Answer
  | 22 => Unit
  | 23 => impl_Chain
  | 24 => impl_Event
  | 25 => spec_l20Rd
  | _ + 26 => Unit
def TR : Nat → Ty
  | 0 => .unit
  | 1 => .unit
  | 2 => .unit
  | 3 => .unit
  | 4 => .unit
  | 5 => .unit
  | 6 => .unit
  | 7 => .unit
  | 8 => .unit
  | 9 => .unit
  | 10 => R_impl_Interval
  | 11 => R_impl_Pair
  | 12 => R_impl_Session
  | 13 => .unit
  | 14 => R_impl_State
  | 15 => .unit
  | 16 => R_impl_Config
  | 17 => R_impl_Replica
  | 18 => R_impl_Entry
  | 19 => R_impl_Command
  | 20 => R_impl_Message
  | 21 => R_impl_Answer
  | 22 => .unit
  | 23 => R_impl_Chain
  | 24 => R_impl_Event
  | 25 => R_spec_l20Rd
  | _ + 26 => .unit
def tto : ∀ i, TT i → (TR i).den TT
  | 0 => fun _ => ()
  | 1 => fun _ => ()
  | 2 => fun _ => ()
  | 3 => fun _ => ()
  | 4 => fun _ => ()
  | 5 => fun _ => ()
  | 6 => fun _ => ()
  | 7 => fun _ => ()
  | 8 => fun _ => ()
  | 9 => fun _ => ()
  | 10 => fun x => (x.Low, x.High, ())
  | 11 => fun x => (x.Key, x.Value, ())
  | 12 => fun x => (x.Client, x.Seq, x.Reply, ())
  | 13 => fun _ => ()
  | 14 => fun x => (x.Span, x.Pairs, x.Known, x.Sealed, x.Cut, ())
  | 15 => fun _ => ()
  | 16 => fun x => (x.Epoch, x.Members, x.Fresh, ())
  | 17 => fun x => (x.Conf, x.Ready, x.Log, ())
  | 18 => fun x => (x.Client, x.Seq, x.Cmd, ())
  | 19 => fun x => (x.Kind, x.Key, x.Value, x.Old, ())
  | 20 => fun x => (x.Kind, x.To, x.Epoch, x.Conf, x.Log, ())
  | 21 => fun x => (x.Asked, x.Reply, ())
  | 22 => fun _ => ()
  | 23 => fun x => (x.Base, x.Conf, x.Nodes, x.Up, x.Bag, x.Answers, ())
  | 24 => fun x => (x.Kind, x.Node, x.Place, x.Sent, ())
  | 25 => fun x => (x.b, x.p, ())
  | _ + 26 => fun _ => ()
def tof : ∀ i, (TR i).den TT → TT i
  | 0 => fun _ => ()
  | 1 => fun _ => ()
  | 2 => fun _ => ()
  | 3 => fun _ => ()
  | 4 => fun _ => ()
  | 5 => fun _ => ()
  | 6 => fun _ => ()
  | 7 => fun _ => ()
  | 8 => fun _ => ()
  | 9 => fun _ => ()
  | 10 => fun x => ⟨x.1, x.2.1⟩
  | 11 => fun x => ⟨x.1, x.2.1⟩
  | 12 => fun x => ⟨x.1, x.2.1, x.2.2.1⟩
  | 13 => fun _ => ()
  | 14 => fun x => ⟨x.1, x.2.1, x.2.2.1, x.2.2.2.1, x.2.2.2.2.1⟩
  | 15 => fun _ => ()
  | 16 => fun x => ⟨x.1, x.2.1, x.2.2.1⟩
  | 17 => fun x => ⟨x.1, x.2.1, x.2.2.1⟩
  | 18 => fun x => ⟨x.1, x.2.1, x.2.2.1⟩
  | 19 => fun x => ⟨x.1, x.2.1, x.2.2.1, x.2.2.2.1⟩
  | 20 => fun x => ⟨x.1, x.2.1, x.2.2.1, x.2.2.2.1, x.2.2.2.2.1⟩
  | 21 => fun x => ⟨x.1, x.2.1⟩
  | 22 => fun _ => ()
  | 23 => fun x => ⟨x.1, x.2.1, x.2.2.1, x.2.2.2.1, x.2.2.2.2.1, x.2.2.2.2.2.1⟩
  | 24 => fun x => ⟨x.1, x.2.1, x.2.2.1, x.2.2.2.1⟩
  | 25 => fun x => ⟨x.1, x.2.1⟩
  | _ + 26 => fun _ => ()
def z_impl_Interval : impl_Interval := ⟨⟨#[]⟩, ⟨#[]⟩⟩
def z_impl_Pair : impl_Pair := ⟨⟨#[]⟩, (0 : Int)⟩
def z_impl_Session : impl_Session := ⟨(0 : Int), (0 : Int), (0 : Int)⟩
def z_impl_State : impl_State := ⟨z_impl_Interval, [], [], false, ⟨#[]⟩⟩
def z_impl_Config : impl_Config := ⟨(0 : Int), [], false⟩
def z_impl_Command : impl_Command := ⟨(0 : Int), ⟨#[]⟩, (0 : Int), (0 : Int)⟩
def z_impl_Entry : impl_Entry := ⟨(0 : Int), (0 : Int), z_impl_Command⟩
def z_impl_Replica : impl_Replica := ⟨z_impl_Config, false, []⟩
def z_impl_Message : impl_Message := ⟨(0 : Int), (0 : Int), (0 : Int), z_impl_Config, []⟩
def z_impl_Answer : impl_Answer := ⟨z_impl_Entry, (0 : Int)⟩
def z_impl_Chain : impl_Chain := ⟨z_impl_State, z_impl_Config, [], [], [], []⟩
def z_impl_Event : impl_Event := ⟨(0 : Int), (0 : Int), (0 : Int), z_impl_Entry⟩
def z_spec_l20Rd : spec_l20Rd := ⟨[], (0 : Int)⟩
def tz : ∀ i, TT i
  | 0 => ()
  | 1 => ()
  | 2 => ()
  | 3 => ()
  | 4 => ()
  | 5 => ()
  | 6 => ()
  | 7 => ()
  | 8 => ()
  | 9 => ()
  | 10 => z_impl_Interval
  | 11 => z_impl_Pair
  | 12 => z_impl_Session
  | 13 => ()
  | 14 => z_impl_State
  | 15 => ()
  | 16 => z_impl_Config
  | 17 => z_impl_Replica
  | 18 => z_impl_Entry
  | 19 => z_impl_Command
  | 20 => z_impl_Message
  | 21 => z_impl_Answer
  | 22 => ()
  | 23 => z_impl_Chain
  | 24 => z_impl_Event
  | 25 => z_spec_l20Rd
  | _ + 26 => ()
theorem t1 : ∀ i (x : (TR i).den TT), tto i (tof i x) = x
  | 0 => fun _ => rfl
  | 1 => fun _ => rfl
  | 2 => fun _ => rfl
  | 3 => fun _ => rfl
  | 4 => fun _ => rfl
  | 5 => fun _ => rfl
  | 6 => fun _ => rfl
  | 7 => fun _ => rfl
  | 8 => fun _ => rfl
  | 9 => fun _ => rfl
  | 10 => fun _ => rfl
  | 11 => fun _ => rfl
  | 12 => fun _ => rfl
  | 13 => fun _ => rfl
  | 14 => fun _ => rfl
  | 15 => fun _ => rfl
  | 16 => fun _ => rfl
  | 17 => fun _ => rfl
  | 18 => fun _ => rfl
  | 19 => fun _ => rfl
  | 20 => fun _ => rfl
  | 21 => fun _ => rfl
  | 22 => fun _ => rfl
  | 23 => fun _ => rfl
  | 24 => fun _ => rfl
  | 25 => fun _ => rfl
  | _ + 26 => fun _ => rfl
theorem t2 : ∀ i (x : TT i), tof i (tto i x) = x
  | 0 => fun _ => rfl
  | 1 => fun _ => rfl
  | 2 => fun _ => rfl
  | 3 => fun _ => rfl
  | 4 => fun _ => rfl
  | 5 => fun _ => rfl
  | 6 => fun _ => rfl
  | 7 => fun _ => rfl
  | 8 => fun _ => rfl
  | 9 => fun _ => rfl
  | 10 => fun _ => rfl
  | 11 => fun _ => rfl
  | 12 => fun _ => rfl
  | 13 => fun _ => rfl
  | 14 => fun _ => rfl
  | 15 => fun _ => rfl
  | 16 => fun _ => rfl
  | 17 => fun _ => rfl
  | 18 => fun _ => rfl
  | 19 => fun _ => rfl
  | 20 => fun _ => rfl
  | 21 => fun _ => rfl
  | 22 => fun _ => rfl
  | 23 => fun _ => rfl
  | 24 => fun _ => rfl
  | 25 => fun _ => rfl
  | _ + 26 => fun _ => rfl
instance : Tys := ⟨TT, TR, tto, tof, tz, t1, t2⟩
def look {α : Type} (k : Nat) : List (Nat × α) → Option α
  | [] => none
  | x :: l => bif Nat.beq x.1 k then some x.2 else look k l
noncomputable def FTl : List (Nat × Func) := [(3, Tryz.f3), (4, Tryz.f4), (5, Tryz.f5), (6, Tryz.f6), (7, Tryz.f7), (8, Tryz.f8), (9, Tryz.f9), (10, Tryz.f10), (11, Tryz.f11), (12, Tryz.f12), (13, Tryz.f13), (14, Tryz.f14), (15, Tryz.f15), (16, Tryz.f16), (17, Tryz.f17), (18, Tryz.f18), (19, Tryz.f19), (20, Tryz.f20), (21, Tryz.f21), (22, Tryz.f22), (23, Tryz.f23), (24, Tryz.f24), (25, Tryz.f25), (26, Tryz.f26), (27, Tryz.f27), (28, Tryz.f28), (29, Tryz.f29), (30, Tryz.f30), (31, Tryz.f31), (32, Tryz.f32), (33, Tryz.f33), (34, Tryz.f34), (35, Tryz.f35), (36, Tryz.f36), (37, Tryz.f37), (38, Tryz.f38), (39, Tryz.f39), (40, Tryz.f40), (41, Tryz.f41), (42, Tryz.f42), (43, Tryz.f43), (44, Tryz.f44), (45, Tryz.f45), (46, Tryz.f46), (47, Tryz.f47), (48, Tryz.f48), (49, Tryz.f49), (50, Tryz.f50), (51, Tryz.f51), (52, Tryz.f52), (53, Tryz.f53), (54, Tryz.f54), (55, Tryz.f55), (56, Tryz.f56), (57, Tryz.f57), (58, Tryz.f58), (59, Tryz.f59), (60, Tryz.f60), (61, Tryz.f61), (62, Tryz.f62), (63, Tryz.f63), (64, Tryz.f64), (65, Tryz.f65), (66, Tryz.f66), (67, Tryz.f67), (68, Tryz.f68), (69, Tryz.f69), (70, Tryz.f70), (71, Tryz.f71), (72, Tryz.f72), (73, Tryz.f73), (74, Tryz.f74), (75, Tryz.f75), (76, Tryz.f76), (77, Tryz.f77), (78, Tryz.f78), (79, Tryz.f79), (80, Tryz.f80), (81, Tryz.f81), (82, Tryz.f82), (83, Tryz.f83), (84, Tryz.f84), (85, Tryz.f85), (86, Tryz.f86), (87, Tryz.f87), (88, Tryz.f88), (89, Tryz.f89), (90, Tryz.f90), (91, Tryz.f91), (92, Tryz.f92), (93, Tryz.f93), (94, Tryz.f94), (95, Tryz.f95), (96, Tryz.f96), (97, Tryz.f97), (98, Tryz.f98), (99, Tryz.f99), (100, Tryz.f100), (101, Tryz.f101), (102, Tryz.f102), (103, Tryz.f103), (104, Tryz.f104), (105, Tryz.f105), (106, Tryz.f106), (107, Tryz.f107), (108, Tryz.f108), (109, Tryz.f109), (110, Tryz.f110), (111, Tryz.f111), (112, Tryz.f112), (113, Tryz.f113), (114, Tryz.f114), (115, Tryz.f115), (116, Tryz.f116), (117, Tryz.f117), (118, Tryz.f118), (119, Tryz.f119), (120, Tryz.f120), (121, Tryz.f121), (122, Tryz.f122), (123, Tryz.f123), (124, Tryz.f124), (125, Tryz.f125), (126, Tryz.f126), (127, Tryz.f127), (128, Tryz.f128), (129, Tryz.f129), (130, Tryz.f130), (131, Tryz.f131), (132, Tryz.f132), (133, Tryz.f133), (134, Tryz.f134), (135, Tryz.f135), (136, Tryz.f136), (137, Tryz.f137), (138, Tryz.f138), (139, Tryz.f139), (140, Tryz.f140), (141, Tryz.f141), (142, Tryz.f142), (143, Tryz.f143), (144, Tryz.f144), (145, Tryz.f145), (146, Tryz.f146), (147, Tryz.f147), (148, Tryz.f148), (149, Tryz.f149), (150, Tryz.f150), (151, Tryz.f151), (152, Tryz.f152), (153, Tryz.f153), (154, Tryz.f154), (155, Tryz.f155), (156, Tryz.f156), (157, Tryz.f157), (158, Tryz.f158), (159, Tryz.f159), (160, Tryz.f160), (161, Tryz.f161), (162, Tryz.f162), (163, Tryz.f163), (164, Tryz.f164), (165, Tryz.f165), (166, Tryz.f166), (167, Tryz.f167), (168, Tryz.f168), (169, Tryz.f169), (170, Tryz.f170), (171, Tryz.f171), (172, Tryz.f172), (173, Tryz.f173), (174, Tryz.f174), (175, Tryz.f175), (176, Tryz.f176), (177, Tryz.f177), (178, Tryz.f178), (179, Tryz.f179), (180, Tryz.f180), (181, Tryz.f181), (182, Tryz.f182), (183, Tryz.f183), (184, Tryz.f184), (185, Tryz.f185), (186, Tryz.f186), (187, Tryz.f187), (188, Tryz.f188), (189, Tryz.f189), (190, Tryz.f190), (191, Tryz.f191), (192, Tryz.f192), (193, Tryz.f193), (194, Tryz.f194), (195, Tryz.f195), (196, Tryz.f196), (197, Tryz.f197), (198, Tryz.f198), (199, Tryz.f199)]
def TBl : List (Nat × TI) := [(3, ⟨(.int .i64), 0⟩), (4, ⟨.bool, 0⟩), (5, ⟨(.int .u8), 0⟩), (9, ⟨.str, 0⟩), (22, ⟨(.sl (.int .u8)), 1⟩), (24, ⟨Y_impl_Interval, 0⟩), (25, ⟨(.sl Y_impl_Pair), 24⟩), (26, ⟨(.sl Y_impl_Session), 24⟩), (28, ⟨Y_impl_State, 0⟩), (29, ⟨(.sl (.int .i64)), 8⟩), (31, ⟨Y_impl_Config, 0⟩), (32, ⟨(.sl Y_impl_Replica), 72⟩), (33, ⟨(.sl .bool), 1⟩), (34, ⟨(.sl Y_impl_Message), 88⟩), (35, ⟨(.sl Y_impl_Answer), 64⟩), (37, ⟨Y_impl_Chain, 0⟩), (43, ⟨(.sl Y_impl_Event), 80⟩), (52, ⟨(.bx Y_spec_l20Rd), 0⟩), (58, ⟨(.sl Y_impl_Entry), 56⟩), (66, ⟨Y_impl_Command, 0⟩), (68, ⟨Y_impl_Entry, 0⟩), (70, ⟨Y_impl_Event, 0⟩), (82, ⟨Y_impl_Replica, 0⟩), (85, ⟨Y_impl_Message, 0⟩), (88, ⟨(.bx Y_impl_Chain), 0⟩), (91, ⟨Y_spec_l20Rd, 0⟩), (100, ⟨Y_impl_Answer, 0⟩), (109, ⟨Y_impl_Pair, 0⟩), (111, ⟨Y_impl_Session, 0⟩), (141, ⟨(.sl Y_impl_Config), 40⟩), (158, ⟨(.sl (.sl (.int .i64))), 24⟩), (166, ⟨(.sl Y_impl_Interval), 32⟩), (174, ⟨(.sl .str), 16⟩), (175, ⟨(.sl Y_impl_Command), 40⟩), (197, ⟨(.int .u64), 0⟩)]
def SGl : List (Nat × Sig) := [(3, ⟨[.bor], (.pair .bool .unit), .lit⟩),
  (4, ⟨[.bor], (.pair (.tc Y_impl_Chain (.tc (.int .i64) .unit)) .unit), (.pair (.pair (.pair (.pair .lit (.pair (.own .lit) (.pair (.own .lit) .lit))) (.pair (.pair .lit (.pair (.own .lit) .lit)) (.pair (.own (.pair (.pair .lit (.pair (.own .lit) .lit)) (.pair .lit (.pair (.own .lit) .lit)))) (.pair (.own .lit) (.pair (.own (.pair .lit (.pair .lit (.pair .lit (.pair (.pair .lit (.pair (.own .lit) .lit)) (.pair (.own .lit) .lit)))))) (.pair (.own .lit) .lit)))))) .lit) .lit)⟩),
  (5, ⟨[.bor, .bor], (.pair (.tc Y_impl_State (.tc .bool .unit)) .unit), (.pair (.pair (.pair .lit (.pair (.own .lit) (.pair (.own .lit) .lit))) .lit) .lit)⟩),
  (6, ⟨[.bor, .bor], (.pair (.tc Y_impl_State (.tc .bool .unit)) .unit), (.pair (.pair (.pair .lit (.pair (.own .lit) (.pair (.own .lit) .lit))) .lit) .lit)⟩),
  (7, ⟨[.bor, .bor], (.pair .bool .unit), .lit⟩),
  (8, ⟨[.bor], (.pair (.tc Y_impl_Chain (.tc (.sl Y_impl_Event) .unit)) .unit), (.pair (.pair (.pair (.pair .lit (.pair (.own .lit) (.pair (.own .lit) .lit))) (.pair (.pair .lit (.pair (.own .lit) .lit)) (.pair (.own (.pair (.pair .lit (.pair (.own .lit) .lit)) (.pair .lit (.pair (.own .lit) .lit)))) (.pair (.own .lit) (.pair (.own (.pair .lit (.pair .lit (.pair .lit (.pair (.pair .lit (.pair (.own .lit) .lit)) (.pair (.own .lit) .lit)))))) (.pair (.own .lit) .lit)))))) (.pair (.own .lit) .lit)) .lit)⟩),
  (9, ⟨[.bor], (.pair .bool .unit), .lit⟩),
  (10, ⟨[], (.pair .bool .unit), .lit⟩),
  (11, ⟨[.bor, .bor], (.pair Y_impl_Chain .unit), (.pair (.pair (.pair .lit (.pair (.own .lit) (.pair (.own .lit) .lit))) (.pair (.pair .lit (.pair (.own .lit) .lit)) (.pair (.own (.pair (.pair .lit (.pair (.own .lit) .lit)) (.pair .lit (.pair (.own .lit) .lit)))) (.pair (.own .lit) (.pair (.own (.pair .lit (.pair .lit (.pair .lit (.pair (.pair .lit (.pair (.own .lit) .lit)) (.pair (.own .lit) .lit)))))) (.pair (.own .lit) .lit)))))) .lit)⟩),
  (12, ⟨[.bor], (.pair .bool .unit), .lit⟩),
  (13, ⟨[.bor], (.pair .bool .unit), .lit⟩),
  (14, ⟨[.bor], (.pair Y_impl_Chain .unit), (.pair (.pair (.pair .lit (.pair (.own .lit) (.pair (.own .lit) .lit))) (.pair (.pair .lit (.pair (.own .lit) .lit)) (.pair (.own (.pair (.pair .lit (.pair (.own .lit) .lit)) (.pair .lit (.pair (.own .lit) .lit)))) (.pair (.own .lit) (.pair (.own (.pair .lit (.pair .lit (.pair .lit (.pair (.pair .lit (.pair (.own .lit) .lit)) (.pair (.own .lit) .lit)))))) (.pair (.own .lit) .lit)))))) .lit)⟩),
  (15, ⟨[.bor], (.pair Y_impl_State .unit), (.pair (.pair .lit (.pair (.own .lit) (.pair (.own .lit) .lit))) .lit)⟩),
  (16, ⟨[.bor], (.pair (.bx Y_spec_l20Rd) .unit), (.pair (.own (.pair (.ro [(10000000, 0)]) .lit)) .lit)⟩),
  (17, ⟨[.io, .bor], (.pair Y_impl_Chain (.tc (.bx Y_spec_l20Rd) .unit)), (.pair (.pair (.pair .lit (.pair (.own .lit) (.pair (.own .lit) .lit))) (.pair (.pair .lit (.pair (.own .lit) .lit)) (.pair (.own (.pair (.pair .lit (.pair (.own .lit) .lit)) (.pair .lit (.pair (.own .lit) .lit)))) (.pair (.own .lit) (.pair (.own (.pair .lit (.pair .lit (.pair .lit (.pair (.pair .lit (.pair (.own .lit) .lit)) (.pair (.own .lit) .lit)))))) (.pair (.own .lit) .lit)))))) (.pair (.own (.pair (.ro [(10000000, 0)]) .lit)) .lit))⟩),
  (18, ⟨[.bor], (.pair .bool .unit), .lit⟩),
  (19, ⟨[.io, .bor], (.pair (.int .i64) (.tc (.bx Y_spec_l20Rd) .unit)), (.pair .lit (.pair (.own (.pair (.ro [(10000000, 0)]) .lit)) .lit))⟩),
  (20, ⟨[.bor], (.pair Y_impl_Chain .unit), (.pair (.pair (.pair .lit (.pair (.own .lit) (.pair (.own .lit) .lit))) (.pair (.pair .lit (.pair (.own .lit) .lit)) (.pair (.own (.pair (.pair .lit (.pair (.own .lit) .lit)) (.pair .lit (.pair (.own .lit) .lit)))) (.pair (.own .lit) (.pair (.own (.pair .lit (.pair .lit (.pair .lit (.pair (.pair .lit (.pair (.own .lit) .lit)) (.pair (.own .lit) .lit)))))) (.pair (.own .lit) .lit)))))) .lit)⟩),
  (21, ⟨[.bor, .bor], (.pair (.tc Y_impl_State (.tc (.sl (.int .i64)) .unit)) .unit), (.pair (.pair (.pair .lit (.pair (.own .lit) (.pair (.own .lit) .lit))) (.pair (.own .lit) .lit)) .lit)⟩),
  (22, ⟨[.bor], (.pair (.sl Y_impl_Entry) .unit), (.pair (.own .lit) .lit)⟩),
  (23, ⟨[.bor, .bor, .bor], (.pair .bool .unit), .lit⟩),
  (24, ⟨[.bor], (.pair (.sl Y_impl_Entry) .unit), (.pair (.own .lit) .lit)⟩),
  (25, ⟨[.bor, .bor], (.pair (.tc Y_impl_State (.tc (.sl (.int .i64)) .unit)) .unit), (.pair (.pair (.pair .lit (.pair (.own .lit) (.pair (.own .lit) .lit))) (.pair (.own .lit) .lit)) .lit)⟩),
  (26, ⟨[.bor, .bor], (.pair .bool .unit), .lit⟩),
  (27, ⟨[.bor, .bor], (.pair .bool .unit), .lit⟩),
  (28, ⟨[.io, .bor], (.pair (.tc Y_impl_Chain (.tc (.sl Y_impl_Event) .unit)) (.tc (.bx Y_spec_l20Rd) .unit)), (.pair (.pair (.pair (.pair .lit (.pair (.own .lit) (.pair (.own .lit) .lit))) (.pair (.pair .lit (.pair (.own .lit) .lit)) (.pair (.own (.pair (.pair .lit (.pair (.own .lit) .lit)) (.pair .lit (.pair (.own .lit) .lit)))) (.pair (.own .lit) (.pair (.own (.pair .lit (.pair .lit (.pair .lit (.pair (.pair .lit (.pair (.own .lit) .lit)) (.pair (.own .lit) .lit)))))) (.pair (.own .lit) .lit)))))) (.pair (.own .lit) .lit)) (.pair (.own (.pair (.ro [(10000000, 0)]) .lit)) .lit))⟩),
  (29, ⟨[.io, .bor, .bor], (.pair Y_impl_Event (.tc (.bx Y_spec_l20Rd) .unit)), (.pair .lit (.pair (.own (.pair (.ro [(10000000, 0)]) .lit)) .lit))⟩),
  (30, ⟨[.bor, .bor], (.pair .bool .unit), .lit⟩),
  (31, ⟨[.bor, .bor], (.pair Y_impl_Chain .unit), (.pair (.pair (.pair .lit (.pair (.own .lit) (.pair (.own .lit) .lit))) (.pair (.pair .lit (.pair (.own .lit) .lit)) (.pair (.own (.pair (.pair .lit (.pair (.own .lit) .lit)) (.pair .lit (.pair (.own .lit) .lit)))) (.pair (.own .lit) (.pair (.own (.pair .lit (.pair .lit (.pair .lit (.pair (.pair .lit (.pair (.own .lit) .lit)) (.pair (.own .lit) .lit)))))) (.pair (.own .lit) .lit)))))) .lit)⟩),
  (32, ⟨[.bor], (.pair (.int .i64) .unit), .lit⟩),
  (33, ⟨[.bor], (.pair .bool .unit), .lit⟩),
  (34, ⟨[.bor], (.pair Y_impl_Chain .unit), (.pair (.pair (.pair .lit (.pair (.own .lit) (.pair (.own .lit) .lit))) (.pair (.pair .lit (.pair (.own .lit) .lit)) (.pair (.own (.pair (.pair .lit (.pair (.own .lit) .lit)) (.pair .lit (.pair (.own .lit) .lit)))) (.pair (.own .lit) (.pair (.own (.pair .lit (.pair .lit (.pair .lit (.pair (.pair .lit (.pair (.own .lit) .lit)) (.pair (.own .lit) .lit)))))) (.pair (.own .lit) .lit)))))) .lit)⟩),
  (35, ⟨[.bor, .bor], (.pair (.tc Y_impl_Chain (.tc .bool .unit)) .unit), (.pair (.pair (.pair (.pair .lit (.pair (.own .lit) (.pair (.own .lit) .lit))) (.pair (.pair .lit (.pair (.own .lit) .lit)) (.pair (.own (.pair (.pair .lit (.pair (.own .lit) .lit)) (.pair .lit (.pair (.own .lit) .lit)))) (.pair (.own .lit) (.pair (.own (.pair .lit (.pair .lit (.pair .lit (.pair (.pair .lit (.pair (.own .lit) .lit)) (.pair (.own .lit) .lit)))))) (.pair (.own .lit) .lit)))))) .lit) .lit)⟩),
  (36, ⟨[.bor], (.pair .bool .unit), .lit⟩),
  (37, ⟨[.bor], (.pair .bool .unit), .lit⟩),
  (38, ⟨[.bor], (.pair .bool .unit), .lit⟩),
  (39, ⟨[.bor], (.pair .bool .unit), .lit⟩),
  (40, ⟨[.bor], (.pair .bool .unit), .lit⟩),
  (41, ⟨[.io, .bor, .bor], (.pair .unit (.tc (.bx Y_impl_Chain) .unit)), (.pair .lit (.pair (.own (.pair (.pair .lit (.pair (.own .lit) (.pair (.own .lit) .lit))) (.pair (.pair .lit (.pair (.own .lit) .lit)) (.pair (.own (.pair (.pair .lit (.pair (.own .lit) .lit)) (.pair .lit (.pair (.own .lit) .lit)))) (.pair (.own .lit) (.pair (.own (.pair .lit (.pair .lit (.pair .lit (.pair (.pair .lit (.pair (.own .lit) .lit)) (.pair (.own .lit) .lit)))))) (.pair (.own .lit) .lit))))))) .lit))⟩),
  (42, ⟨[.bor], (.pair (.sl (.int .i64)) .unit), (.pair (.own .lit) .lit)⟩),
  (43, ⟨[.bor, .bor], (.pair Y_impl_Chain .unit), (.pair (.pair (.pair .lit (.pair (.own .lit) (.pair (.own .lit) .lit))) (.pair (.pair .lit (.pair (.own .lit) .lit)) (.pair (.own (.pair (.pair .lit (.pair (.own .lit) .lit)) (.pair .lit (.pair (.own .lit) .lit)))) (.pair (.own .lit) (.pair (.own (.pair .lit (.pair .lit (.pair .lit (.pair (.pair .lit (.pair (.own .lit) .lit)) (.pair (.own .lit) .lit)))))) (.pair (.own .lit) .lit)))))) .lit)⟩),
  (44, ⟨[.io, .bor], (.pair .bool (.tc (.bx Y_spec_l20Rd) .unit)), (.pair .lit (.pair (.own (.pair (.ro [(10000000, 0)]) .lit)) .lit))⟩),
  (45, ⟨[.io, .bor], (.pair Y_impl_State (.tc (.bx Y_spec_l20Rd) .unit)), (.pair (.pair .lit (.pair (.own .lit) (.pair (.own .lit) .lit))) (.pair (.own (.pair (.ro [(10000000, 0)]) .lit)) .lit))⟩),
  (46, ⟨[.io, .bor], (.pair Y_impl_Config (.tc (.bx Y_spec_l20Rd) .unit)), (.pair (.pair .lit (.pair (.own .lit) .lit)) (.pair (.own (.pair (.ro [(10000000, 0)]) .lit)) .lit))⟩),
  (47, ⟨[.io, .bor], (.pair Y_impl_Replica (.tc (.bx Y_spec_l20Rd) .unit)), (.pair (.pair (.pair .lit (.pair (.own .lit) .lit)) (.pair .lit (.pair (.own .lit) .lit))) (.pair (.own (.pair (.ro [(10000000, 0)]) .lit)) .lit))⟩),
  (48, ⟨[.io, .bor], (.pair (.sl Y_impl_Message) (.tc (.bx Y_spec_l20Rd) .unit)), (.pair (.own (.pair .lit (.pair .lit (.pair .lit (.pair (.pair .lit (.pair (.own .lit) .lit)) (.pair (.own .lit) .lit)))))) (.pair (.own (.pair (.ro [(10000000, 0)]) .lit)) .lit))⟩),
  (49, ⟨[.io, .bor], (.pair Y_impl_Entry (.tc (.bx Y_spec_l20Rd) .unit)), (.pair .lit (.pair (.own (.pair (.ro [(10000000, 0)]) .lit)) .lit))⟩),
  (50, ⟨[.io, .bor], (.pair (.int .i64) (.tc (.bx Y_spec_l20Rd) .unit)), (.pair .lit (.pair (.own (.pair (.ro [(10000000, 0)]) .lit)) .lit))⟩),
  (51, ⟨[.io, .bor], (.pair (.sl Y_impl_Entry) (.tc (.bx Y_spec_l20Rd) .unit)), (.pair (.own .lit) (.pair (.own (.pair (.ro [(10000000, 0)]) .lit)) .lit))⟩),
  (52, ⟨[.bor], (.pair .bool .unit), .lit⟩),
  (53, ⟨[.bor], (.pair .bool .unit), .lit⟩),
  (54, ⟨[.bor], (.pair .bool .unit), .lit⟩),
  (55, ⟨[.bor], (.pair .bool .unit), .lit⟩),
  (56, ⟨[.bor], (.pair .bool .unit), .lit⟩),
  (57, ⟨[.bor], (.pair Y_impl_Chain .unit), (.pair (.pair (.pair .lit (.pair (.own .lit) (.pair (.own .lit) .lit))) (.pair (.pair .lit (.pair (.own .lit) .lit)) (.pair (.own (.pair (.pair .lit (.pair (.own .lit) .lit)) (.pair .lit (.pair (.own .lit) .lit)))) (.pair (.own .lit) (.pair (.own (.pair .lit (.pair .lit (.pair .lit (.pair (.pair .lit (.pair (.own .lit) .lit)) (.pair (.own .lit) .lit)))))) (.pair (.own .lit) .lit)))))) .lit)⟩),
  (58, ⟨[.bor, .bor, .bor], (.pair Y_impl_Chain .unit), (.pair (.pair (.pair .lit (.pair (.own .lit) (.pair (.own .lit) .lit))) (.pair (.pair .lit (.pair (.own .lit) .lit)) (.pair (.own (.pair (.pair .lit (.pair (.own .lit) .lit)) (.pair .lit (.pair (.own .lit) .lit)))) (.pair (.own .lit) (.pair (.own (.pair .lit (.pair .lit (.pair .lit (.pair (.pair .lit (.pair (.own .lit) .lit)) (.pair (.own .lit) .lit)))))) (.pair (.own .lit) .lit)))))) .lit)⟩),
  (59, ⟨[.bor], (.pair .bool .unit), .lit⟩),
  (60, ⟨[.bor], (.pair Y_impl_State .unit), (.pair (.pair .lit (.pair (.own .lit) (.pair (.own .lit) .lit))) .lit)⟩),
  (61, ⟨[.bor, .bor], (.pair (.tc Y_impl_State (.tc (.int .i64) .unit)) .unit), (.pair (.pair (.pair .lit (.pair (.own .lit) (.pair (.own .lit) .lit))) .lit) .lit)⟩),
  (62, ⟨[.bor], (.pair .bool .unit), .lit⟩),
  (63, ⟨[.bor], (.pair Y_impl_State .unit), (.pair (.pair .lit (.pair (.own .lit) (.pair (.own .lit) .lit))) .lit)⟩),
  (64, ⟨[.bor, .bor], (.pair (.tc Y_impl_State (.tc (.int .i64) .unit)) .unit), (.pair (.pair (.pair .lit (.pair (.own .lit) (.pair (.own .lit) .lit))) .lit) .lit)⟩),
  (65, ⟨[.bor, .bor], (.pair Y_impl_Chain .unit), (.pair (.pair (.pair .lit (.pair (.own .lit) (.pair (.own .lit) .lit))) (.pair (.pair .lit (.pair (.own .lit) .lit)) (.pair (.own (.pair (.pair .lit (.pair (.own .lit) .lit)) (.pair .lit (.pair (.own .lit) .lit)))) (.pair (.own .lit) (.pair (.own (.pair .lit (.pair .lit (.pair .lit (.pair (.pair .lit (.pair (.own .lit) .lit)) (.pair (.own .lit) .lit)))))) (.pair (.own .lit) .lit)))))) .lit)⟩),
  (66, ⟨[.io], (.pair Y_impl_State (.tc (.bx Y_spec_l20Rd) .unit)), (.pair (.pair .lit (.pair (.own .lit) (.pair (.own .lit) .lit))) (.pair (.own (.pair (.ro [(10000000, 0)]) .lit)) .lit))⟩),
  (67, ⟨[.io, .bor], (.pair (.sl (.int .i64)) (.tc (.bx Y_spec_l20Rd) .unit)), (.pair (.own .lit) (.pair (.own (.pair (.ro [(10000000, 0)]) .lit)) .lit))⟩),
  (68, ⟨[.io, .bor, .bor], (.pair Y_impl_Event (.tc (.bx Y_spec_l20Rd) .unit)), (.pair .lit (.pair (.own (.pair (.ro [(10000000, 0)]) .lit)) .lit))⟩),
  (69, ⟨[.bor, .bor], (.pair (.sl Y_impl_Event) .unit), (.pair (.own .lit) .lit)⟩),
  (70, ⟨[.bor, .bor], (.pair (.tc Y_impl_Chain (.tc .bool .unit)) .unit), (.pair (.pair (.pair (.pair .lit (.pair (.own .lit) (.pair (.own .lit) .lit))) (.pair (.pair .lit (.pair (.own .lit) .lit)) (.pair (.own (.pair (.pair .lit (.pair (.own .lit) .lit)) (.pair .lit (.pair (.own .lit) .lit)))) (.pair (.own .lit) (.pair (.own (.pair .lit (.pair .lit (.pair .lit (.pair (.pair .lit (.pair (.own .lit) .lit)) (.pair (.own .lit) .lit)))))) (.pair (.own .lit) .lit)))))) .lit) .lit)⟩),
  (71, ⟨[.io, .bor], (.pair (.int .i64) (.tc (.bx Y_spec_l20Rd) .unit)), (.pair .lit (.pair (.own (.pair (.ro [(10000000, 0)]) .lit)) .lit))⟩),
  (72, ⟨[.bor, .bor], (.pair .bool .unit), .lit⟩),
  (73, ⟨[.bor, .bor], (.pair .bool .unit), .lit⟩),
  (74, ⟨[.bor, .bor], (.pair .bool .unit), .lit⟩),
  (75, ⟨[.bor, .bor], (.pair .bool .unit), .lit⟩),
  (76, ⟨[.bor, .bor], (.pair .bool .unit), .lit⟩),
  (77, ⟨[.bor], (.pair Y_impl_Config .unit), (.pair (.pair .lit (.pair (.own .lit) .lit)) .lit)⟩),
  (78, ⟨[.bor], (.pair .bool .unit), .lit⟩),
  (79, ⟨[.bor, .bor], (.pair (.int .i64) .unit), .lit⟩),
  (80, ⟨[.bor], (.pair .bool .unit), .lit⟩),
  (81, ⟨[.bor], (.pair .bool .unit), .lit⟩),
  (82, ⟨[.bor], (.pair Y_impl_Replica .unit), (.pair (.pair (.pair .lit (.pair (.own .lit) .lit)) (.pair .lit (.pair (.own .lit) .lit))) .lit)⟩),
  (83, ⟨[.bor], (.pair (.sl .bool) .unit), (.pair (.own .lit) .lit)⟩),
  (84, ⟨[.bor], (.pair (.sl Y_impl_Message) .unit), (.pair (.own (.pair .lit (.pair .lit (.pair .lit (.pair (.pair .lit (.pair (.own .lit) .lit)) (.pair (.own .lit) .lit)))))) .lit)⟩),
  (85, ⟨[.bor], (.pair (.sl Y_impl_Answer) .unit), (.pair (.own .lit) .lit)⟩),
  (86, ⟨[.io, .bor], (.pair .bool (.tc (.bx Y_impl_Chain) .unit)), (.pair .lit (.pair (.own (.pair (.pair .lit (.pair (.own .lit) (.pair (.own .lit) .lit))) (.pair (.pair .lit (.pair (.own .lit) .lit)) (.pair (.own (.pair (.pair .lit (.pair (.own .lit) .lit)) (.pair .lit (.pair (.own .lit) .lit)))) (.pair (.own .lit) (.pair (.own (.pair .lit (.pair .lit (.pair .lit (.pair (.pair .lit (.pair (.own .lit) .lit)) (.pair (.own .lit) .lit)))))) (.pair (.own .lit) .lit))))))) .lit))⟩),
  (87, ⟨[.bor], (.pair .bool .unit), .lit⟩),
  (88, ⟨[.bor], (.pair .bool .unit), .lit⟩),
  (89, ⟨[.bor], (.pair .bool .unit), .lit⟩),
  (90, ⟨[.bor, .bor], (.pair .bool .unit), .lit⟩),
  (91, ⟨[.bor, .bor], (.pair (.tc Y_impl_Interval (.tc Y_impl_Interval (.tc .bool .unit))) .unit), .lit⟩),
  (92, ⟨[.bor], (.pair .bool .unit), .lit⟩),
  (93, ⟨[.bor], (.pair .bool .unit), .lit⟩),
  (94, ⟨[.bor], (.pair .bool .unit), .lit⟩),
  (95, ⟨[.io, .bor], (.pair Y_impl_Interval (.tc (.bx Y_spec_l20Rd) .unit)), (.pair .lit (.pair (.own (.pair (.ro [(10000000, 0)]) .lit)) .lit))⟩),
  (96, ⟨[.bor, .bor], (.pair (.sl Y_impl_Pair) .unit), (.pair (.own .lit) .lit)⟩),
  (97, ⟨[.io, .bor], (.pair (.sl Y_impl_Pair) (.tc (.bx Y_spec_l20Rd) .unit)), (.pair (.own .lit) (.pair (.own (.pair (.ro [(10000000, 0)]) .lit)) .lit))⟩),
  (98, ⟨[.io, .bor], (.pair (.sl Y_impl_Session) (.tc (.bx Y_spec_l20Rd) .unit)), (.pair (.own .lit) (.pair (.own (.pair (.ro [(10000000, 0)]) .lit)) .lit))⟩),
  (99, ⟨[.bor, .bor], (.pair (.tc Y_impl_Interval (.tc Y_impl_Interval (.tc .bool .unit))) .unit), .lit⟩),
  (100, ⟨[.bor, .bor], (.pair (.tc Y_impl_Config (.tc .bool .unit)) .unit), (.pair (.pair (.pair .lit (.pair (.own .lit) .lit)) .lit) .lit)⟩),
  (101, ⟨[.bor, .bor], (.pair (.tc Y_impl_Config (.tc .bool .unit)) .unit), (.pair (.pair (.pair .lit (.pair (.own .lit) .lit)) .lit) .lit)⟩),
  (102, ⟨[.bor], (.pair Y_impl_Config .unit), (.pair (.pair .lit (.pair (.own .lit) .lit)) .lit)⟩),
  (103, ⟨[.io, .bor], (.pair Y_impl_Message (.tc (.bx Y_spec_l20Rd) .unit)), (.pair (.pair .lit (.pair .lit (.pair .lit (.pair (.pair .lit (.pair (.own .lit) .lit)) (.pair (.own .lit) .lit))))) (.pair (.own (.pair (.ro [(10000000, 0)]) .lit)) .lit))⟩),
  (104, ⟨[.io, .bor], (.pair Y_impl_Command (.tc (.bx Y_spec_l20Rd) .unit)), (.pair .lit (.pair (.own (.pair (.ro [(10000000, 0)]) .lit)) .lit))⟩),
  (105, ⟨[.io, .bor], (.pair Y_impl_Command (.tc (.bx Y_spec_l20Rd) .unit)), (.pair .lit (.pair (.own (.pair (.ro [(10000000, 0)]) .lit)) .lit))⟩),
  (106, ⟨[.bor], (.pair .bool .unit), .lit⟩),
  (107, ⟨[.bor], (.pair .bool .unit), .lit⟩),
  (108, ⟨[.bor], (.pair .bool .unit), .lit⟩),
  (109, ⟨[.bor, .bor], (.pair .bool .unit), .lit⟩),
  (110, ⟨[.bor], (.pair .bool .unit), .lit⟩),
  (111, ⟨[.bor], (.pair .bool .unit), .lit⟩),
  (112, ⟨[.bor], (.pair .bool .unit), .lit⟩),
  (113, ⟨[.bor], (.pair Y_impl_Config .unit), (.pair (.pair .lit (.pair (.own .lit) .lit)) .lit)⟩),
  (114, ⟨[.bor, .bor], (.pair (.sl Y_impl_Message) .unit), (.pair (.own (.pair .lit (.pair .lit (.pair .lit (.pair (.pair .lit (.pair (.own .lit) .lit)) (.pair (.own .lit) .lit)))))) .lit)⟩),
  (115, ⟨[.bor], (.pair Y_impl_Replica .unit), (.pair (.pair (.pair .lit (.pair (.own .lit) .lit)) (.pair .lit (.pair (.own .lit) .lit))) .lit)⟩),
  (116, ⟨[.bor], (.pair (.sl Y_impl_Pair) .unit), (.pair (.own .lit) .lit)⟩),
  (117, ⟨[.bor], (.pair (.sl Y_impl_Session) .unit), (.pair (.own .lit) .lit)⟩),
  (118, ⟨[.bor, .bor], (.pair (.tc (.int .i64) (.tc .bool .unit)) .unit), .lit⟩),
  (119, ⟨[.bor, .bor], (.pair .bool .unit), .lit⟩),
  (120, ⟨[.bor, .bor], (.pair (.tc (.sl Y_impl_Pair) (.tc (.int .i64) .unit)) .unit), (.pair (.pair (.own .lit) .lit) .lit)⟩),
  (121, ⟨[.bor, .bor], (.pair (.tc (.sl Y_impl_Session) (.tc .bool .unit)) .unit), (.pair (.pair (.own .lit) .lit) .lit)⟩),
  (122, ⟨[.bor, .bor], (.pair Y_impl_Session .unit), .lit⟩),
  (123, ⟨[.bor, .bor], (.pair (.tc (.sl Y_impl_Pair) (.tc (.int .i64) .unit)) .unit), (.pair (.pair (.own .lit) .lit) .lit)⟩),
  (124, ⟨[.bor, .bor], (.pair (.tc (.sl Y_impl_Session) (.tc .bool .unit)) .unit), (.pair (.pair (.own .lit) .lit) .lit)⟩),
  (125, ⟨[.bor, .bor], (.pair (.int .i64) .unit), .lit⟩),
  (126, ⟨[.bor], (.pair Y_impl_State .unit), (.pair (.pair .lit (.pair (.own .lit) (.pair (.own .lit) .lit))) .lit)⟩),
  (127, ⟨[.own, .bor], (.pair (.tc Y_impl_Chain (.tc .bool .unit)) .unit), (.pair (.pair (.pair (.pair .lit (.pair (.own .lit) (.pair (.own .lit) .lit))) (.pair (.pair .lit (.pair (.own .lit) .lit)) (.pair (.own (.pair (.pair .lit (.pair (.own .lit) .lit)) (.pair .lit (.pair (.own .lit) .lit)))) (.pair (.own .lit) (.pair (.own (.pair .lit (.pair .lit (.pair .lit (.pair (.pair .lit (.pair (.own .lit) .lit)) (.pair (.own .lit) .lit)))))) (.pair (.own .lit) .lit)))))) .lit) .lit)⟩),
  (128, ⟨[.own, .bor], (.pair (.tc Y_impl_Chain (.tc .bool .unit)) .unit), (.pair (.pair (.pair (.pair .lit (.pair (.own .lit) (.pair (.own .lit) .lit))) (.pair (.pair .lit (.pair (.own .lit) .lit)) (.pair (.own (.pair (.pair .lit (.pair (.own .lit) .lit)) (.pair .lit (.pair (.own .lit) .lit)))) (.pair (.own .lit) (.pair (.own (.pair .lit (.pair .lit (.pair .lit (.pair (.pair .lit (.pair (.own .lit) .lit)) (.pair (.own .lit) .lit)))))) (.pair (.own .lit) .lit)))))) .lit) .lit)⟩),
  (129, ⟨[.own, .bor], (.pair (.tc Y_impl_Chain (.tc .bool .unit)) .unit), (.pair (.pair (.pair (.pair .lit (.pair (.own .lit) (.pair (.own .lit) .lit))) (.pair (.pair .lit (.pair (.own .lit) .lit)) (.pair (.own (.pair (.pair .lit (.pair (.own .lit) .lit)) (.pair .lit (.pair (.own .lit) .lit)))) (.pair (.own .lit) (.pair (.own (.pair .lit (.pair .lit (.pair .lit (.pair (.pair .lit (.pair (.own .lit) .lit)) (.pair (.own .lit) .lit)))))) (.pair (.own .lit) .lit)))))) .lit) .lit)⟩),
  (130, ⟨[.bor, .bor], (.pair .bool .unit), .lit⟩),
  (131, ⟨[.bor, .bor], (.pair .bool .unit), .lit⟩),
  (132, ⟨[.bor, .bor], (.pair .bool .unit), .lit⟩),
  (133, ⟨[.bor, .bor], (.pair (.int .i64) .unit), .lit⟩),
  (134, ⟨[.bor], (.pair .bool .unit), .lit⟩),
  (135, ⟨[.bor], (.pair (.int .i64) .unit), .lit⟩),
  (136, ⟨[.bor], (.pair .bool .unit), .lit⟩),
  (137, ⟨[.bor], (.pair .bool .unit), .lit⟩),
  (138, ⟨[.bor], (.pair (.sl Y_impl_Entry) .unit), (.pair (.own .lit) .lit)⟩),
  (139, ⟨[.bor], (.pair Y_impl_Message .unit), (.pair (.pair .lit (.pair .lit (.pair .lit (.pair (.pair .lit (.pair (.own .lit) .lit)) (.pair (.own .lit) .lit))))) .lit)⟩),
  (140, ⟨[.io, .bor], (.pair .bool (.tc (.bx Y_impl_Chain) .unit)), (.pair .lit (.pair (.own (.pair (.pair .lit (.pair (.own .lit) (.pair (.own .lit) .lit))) (.pair (.pair .lit (.pair (.own .lit) .lit)) (.pair (.own (.pair (.pair .lit (.pair (.own .lit) .lit)) (.pair .lit (.pair (.own .lit) .lit)))) (.pair (.own .lit) (.pair (.own (.pair .lit (.pair .lit (.pair .lit (.pair (.pair .lit (.pair (.own .lit) .lit)) (.pair (.own .lit) .lit)))))) (.pair (.own .lit) .lit))))))) .lit))⟩),
  (141, ⟨[.io, .bor], (.pair .bool (.tc (.bx Y_impl_Chain) .unit)), (.pair .lit (.pair (.own (.pair (.pair .lit (.pair (.own .lit) (.pair (.own .lit) .lit))) (.pair (.pair .lit (.pair (.own .lit) .lit)) (.pair (.own (.pair (.pair .lit (.pair (.own .lit) .lit)) (.pair .lit (.pair (.own .lit) .lit)))) (.pair (.own .lit) (.pair (.own (.pair .lit (.pair .lit (.pair .lit (.pair (.pair .lit (.pair (.own .lit) .lit)) (.pair (.own .lit) .lit)))))) (.pair (.own .lit) .lit))))))) .lit))⟩),
  (142, ⟨[.io, .bor], (.pair .bool (.tc (.bx Y_impl_Chain) .unit)), (.pair .lit (.pair (.own (.pair (.pair .lit (.pair (.own .lit) (.pair (.own .lit) .lit))) (.pair (.pair .lit (.pair (.own .lit) .lit)) (.pair (.own (.pair (.pair .lit (.pair (.own .lit) .lit)) (.pair .lit (.pair (.own .lit) .lit)))) (.pair (.own .lit) (.pair (.own (.pair .lit (.pair .lit (.pair .lit (.pair (.pair .lit (.pair (.own .lit) .lit)) (.pair (.own .lit) .lit)))))) (.pair (.own .lit) .lit))))))) .lit))⟩),
  (143, ⟨[.bor], (.pair .str .unit), .lit⟩),
  (144, ⟨[.bor], (.pair .bool .unit), .lit⟩),
  (145, ⟨[.io, .bor], (.pair .str (.tc (.bx Y_spec_l20Rd) .unit)), (.pair .lit (.pair (.own (.pair (.ro [(10000000, 0)]) .lit)) .lit))⟩),
  (146, ⟨[.bor, .bor, .bor], (.pair (.sl Y_impl_Pair) .unit), (.pair (.own .lit) .lit)⟩),
  (147, ⟨[.bor, .bor, .bor], (.pair (.tc (.sl Y_impl_Pair) (.tc .bool .unit)) .unit), (.pair (.pair (.own .lit) .lit) .lit)⟩),
  (148, ⟨[.io, .bor], (.pair (.int .i64) (.tc (.bx Y_spec_l20Rd) .unit)), (.pair .lit (.pair (.own (.pair (.ro [(10000000, 0)]) .lit)) .lit))⟩),
  (149, ⟨[.bor], (.pair .str .unit), .lit⟩),
  (150, ⟨[.io, .bor], (.pair Y_impl_Session (.tc (.bx Y_spec_l20Rd) .unit)), (.pair .lit (.pair (.own (.pair (.ro [(10000000, 0)]) .lit)) .lit))⟩),
  (151, ⟨[.bor], (.pair .bool .unit), .lit⟩),
  (152, ⟨[.bor], (.pair (.sl (.int .i64)) .unit), (.pair (.own .lit) .lit)⟩),
  (153, ⟨[.bor], (.pair Y_impl_Message .unit), (.pair (.pair .lit (.pair .lit (.pair .lit (.pair (.pair .lit (.pair (.own .lit) .lit)) (.pair (.own .lit) .lit))))) .lit)⟩),
  (154, ⟨[.bor, .bor, .bor], (.pair (.tc (.int .i64) (.tc .bool .unit)) .unit), .lit⟩),
  (155, ⟨[.bor, .bor], (.pair (.int .i64) .unit), .lit⟩),
  (156, ⟨[.bor, .bor], (.pair (.int .i64) .unit), .lit⟩),
  (157, ⟨[.bor, .bor], (.pair (.int .i64) .unit), .lit⟩),
  (158, ⟨[.bor, .bor], (.pair (.tc (.sl Y_impl_Pair) (.tc .bool .unit)) .unit), (.pair (.pair (.own .lit) .lit) .lit)⟩),
  (159, ⟨[.bor, .bor, .bor], (.pair (.tc (.sl Y_impl_Pair) (.tc .bool .unit)) .unit), (.pair (.pair (.own .lit) .lit) .lit)⟩),
  (160, ⟨[.bor, .bor, .bor, .bor], (.pair (.sl Y_impl_Session) .unit), (.pair (.own .lit) .lit)⟩),
  (161, ⟨[.bor, .bor], (.pair (.int .i64) .unit), .lit⟩),
  (162, ⟨[.bor, .bor], (.pair (.tc (.sl Y_impl_Pair) (.tc .bool .unit)) .unit), (.pair (.pair (.own .lit) .lit) .lit)⟩),
  (163, ⟨[.bor, .bor], (.pair (.int .i64) .unit), .lit⟩),
  (164, ⟨[.bor, .bor], (.pair (.tc (.sl Y_impl_Message) (.tc .bool .unit)) .unit), (.pair (.pair (.own (.pair .lit (.pair .lit (.pair .lit (.pair (.pair .lit (.pair (.own .lit) .lit)) (.pair (.own .lit) .lit)))))) .lit) .lit)⟩),
  (165, ⟨[.bor, .bor], (.pair (.tc Y_impl_Message (.tc (.sl Y_impl_Message) (.tc .bool .unit))) .unit), (.pair (.pair (.pair .lit (.pair .lit (.pair .lit (.pair (.pair .lit (.pair (.own .lit) .lit)) (.pair (.own .lit) .lit))))) (.pair (.own (.pair .lit (.pair .lit (.pair .lit (.pair (.pair .lit (.pair (.own .lit) .lit)) (.pair (.own .lit) .lit)))))) .lit)) .lit)⟩),
  (166, ⟨[.bor, .bor, .bor], (.pair (.tc Y_impl_Replica (.tc .bool .unit)) .unit), (.pair (.pair (.pair (.pair .lit (.pair (.own .lit) .lit)) (.pair .lit (.pair (.own .lit) .lit))) .lit) .lit)⟩),
  (167, ⟨[.bor, .bor, .bor], (.pair (.tc Y_impl_Replica (.tc .bool .unit)) .unit), (.pair (.pair (.pair (.pair .lit (.pair (.own .lit) .lit)) (.pair .lit (.pair (.own .lit) .lit))) .lit) .lit)⟩),
  (168, ⟨[.bor, .bor], (.pair (.tc (.sl Y_impl_Message) (.tc .bool .unit)) .unit), (.pair (.pair (.own (.pair .lit (.pair .lit (.pair .lit (.pair (.pair .lit (.pair (.own .lit) .lit)) (.pair (.own .lit) .lit)))))) .lit) .lit)⟩),
  (169, ⟨[.bor, .bor, .bor], (.pair (.tc Y_impl_Replica (.tc .bool .unit)) .unit), (.pair (.pair (.pair (.pair .lit (.pair (.own .lit) .lit)) (.pair .lit (.pair (.own .lit) .lit))) .lit) .lit)⟩),
  (170, ⟨[.bor, .bor], (.pair (.int .i64) .unit), .lit⟩),
  (171, ⟨[.bor, .bor], (.pair .bool .unit), .lit⟩),
  (172, ⟨[.bor, .bor, .bor], (.pair (.tc Y_impl_Replica (.tc .bool .unit)) .unit), (.pair (.pair (.pair (.pair .lit (.pair (.own .lit) .lit)) (.pair .lit (.pair (.own .lit) .lit))) .lit) .lit)⟩),
  (173, ⟨[.bor, .bor], (.pair (.int .i64) .unit), .lit⟩),
  (174, ⟨[.io, .bor], (.pair .bool (.tc (.bx Y_impl_Chain) .unit)), (.pair .lit (.pair (.own (.pair (.pair .lit (.pair (.own .lit) (.pair (.own .lit) .lit))) (.pair (.pair .lit (.pair (.ref 9999000) .lit)) (.pair (.ref 9999001) (.pair (.own .lit) (.pair (.own (.pair .lit (.pair .lit (.pair .lit (.pair (.pair .lit (.pair (.own .lit) .lit)) (.pair (.own .lit) .lit)))))) (.pair (.own .lit) .lit))))))) .lit))⟩),
  (175, ⟨[.bor, .bor], (.pair .bool .unit), .lit⟩),
  (176, ⟨[.io, .bor], (.pair .bool (.tc (.bx Y_impl_Chain) .unit)), (.pair .lit (.pair (.own (.pair (.pair .lit (.pair (.own .lit) (.pair (.own .lit) .lit))) (.pair (.pair .lit (.pair (.own .lit) .lit)) (.pair (.ref 9999000) (.pair (.own .lit) (.pair (.own (.pair .lit (.pair .lit (.pair .lit (.pair (.pair .lit (.pair (.own .lit) .lit)) (.pair (.own .lit) .lit)))))) (.pair (.own .lit) .lit))))))) .lit))⟩),
  (177, ⟨[.bor, .bor], (.pair (.tc (.sl Y_impl_Message) (.tc .bool .unit)) .unit), (.pair (.pair (.own (.pair .lit (.pair .lit (.pair .lit (.pair (.pair .lit (.pair (.own .lit) .lit)) (.pair (.own .lit) .lit)))))) .lit) .lit)⟩),
  (178, ⟨[.bor, .bor], (.pair (.tc Y_impl_Message (.tc (.sl Y_impl_Message) (.tc .bool .unit))) .unit), (.pair (.pair (.pair .lit (.pair .lit (.pair .lit (.pair (.pair .lit (.pair (.own .lit) .lit)) (.pair (.own .lit) .lit))))) (.pair (.own (.pair .lit (.pair .lit (.pair .lit (.pair (.pair .lit (.pair (.own .lit) .lit)) (.pair (.own .lit) .lit)))))) .lit)) .lit)⟩),
  (179, ⟨[.io, .bor], (.pair .unit (.tc (.bx Y_impl_Chain) .unit)), (.pair .lit (.pair (.own (.pair (.pair .lit (.pair (.own .lit) (.pair (.own .lit) .lit))) (.pair (.pair .lit (.pair (.own .lit) .lit)) (.pair (.own (.pair (.pair .lit (.pair (.own .lit) .lit)) (.pair .lit (.pair (.own .lit) .lit)))) (.pair (.own .lit) (.pair (.own (.pair .lit (.pair .lit (.pair .lit (.pair (.pair .lit (.pair (.own .lit) .lit)) (.pair (.own .lit) .lit)))))) (.pair (.own .lit) .lit))))))) .lit))⟩),
  (180, ⟨[.bor, .bor], (.pair (.tc Y_impl_Config (.tc .bool .unit)) .unit), (.pair (.pair (.pair .lit (.pair (.own .lit) .lit)) .lit) .lit)⟩),
  (181, ⟨[.bor, .bor], (.pair (.tc Y_impl_Config (.tc .bool .unit)) .unit), (.pair (.pair (.pair .lit (.pair (.own .lit) .lit)) .lit) .lit)⟩),
  (182, ⟨[.bor, .bor], (.pair (.int .i64) .unit), .lit⟩),
  (183, ⟨[.bor], (.pair (.int .i64) .unit), .lit⟩),
  (184, ⟨[.bor], (.pair .bool .unit), .lit⟩),
  (185, ⟨[.bor, .bor], (.pair (.tc (.int .i64) (.tc .bool .unit)) .unit), .lit⟩),
  (186, ⟨[.bor, .bor, .bor, .bor], (.pair (.sl Y_impl_Pair) .unit), (.pair (.own .lit) .lit)⟩),
  (187, ⟨[.bor, .bor], (.pair (.int .i64) .unit), .lit⟩),
  (188, ⟨[.bor, .bor], (.pair (.int .i64) .unit), .lit⟩),
  (189, ⟨[.bor, .bor], (.pair (.tc (.sl Y_impl_Message) (.tc .bool .unit)) .unit), (.pair (.pair (.own (.pair .lit (.pair .lit (.pair .lit (.pair (.pair .lit (.pair (.own .lit) .lit)) (.pair (.own .lit) .lit)))))) .lit) .lit)⟩),
  (190, ⟨[.bor], (.pair (.int .i64) .unit), .lit⟩),
  (191, ⟨[.own, .bor, .bor, .own], (.pair (.sl Y_impl_Message) .unit), (.pair (.own (.pair .lit (.pair .lit (.pair .lit (.pair (.pair .lit (.pair (.own .lit) .lit)) (.pair (.own .lit) .lit)))))) .lit)⟩),
  (192, ⟨[.bor], (.pair Y_impl_Config .unit), (.pair (.pair .lit (.pair (.own .lit) .lit)) .lit)⟩),
  (193, ⟨[.bor, .bor, .bor], (.pair (.tc Y_impl_Replica (.tc .bool .unit)) .unit), (.pair (.pair (.pair (.pair .lit (.pair (.own .lit) .lit)) (.pair .lit (.pair (.own .lit) .lit))) .lit) .lit)⟩),
  (194, ⟨[.bor, .bor, .bor], (.pair (.tc Y_impl_Replica (.tc .bool .unit)) .unit), (.pair (.pair (.pair (.pair .lit (.pair (.own .lit) .lit)) (.pair .lit (.pair (.own .lit) .lit))) .lit) .lit)⟩),
  (195, ⟨[.bor, .bor, .bor, .bor], (.pair (.sl (.int .i64)) .unit), (.pair (.own .lit) .lit)⟩),
  (196, ⟨[.bor, .bor, .bor], (.pair (.tc (.int .i64) (.tc .bool .unit)) .unit), .lit⟩),
  (197, ⟨[.bor, .bor], (.pair (.int .i64) .unit), .lit⟩),
  (198, ⟨[.bor, .bor], (.pair (.int .i64) .unit), .lit⟩),
  (199, ⟨[.bor], (.pair .bool .unit), .lit⟩)]
def STl : List (Nat × List (Nat × List Nat)) := [(3, [(16, [11, 12, 13])]),
  (8, [(9, [2, 5, 6])]),
  (11, [(4, [1, 2, 4, 19, 20, 21]), (11, [4, 7, 32, 33, 34])]),
  (12, [(4, [1, 36, 37, 38]), (10, [1, 56, 57, 58])]),
  (14, [(5, [2, 3, 17]), (9, [2, 3]), (14, [2, 3, 5, 6, 35, 36, 37]), (20, [2, 3, 5, 6, 47, 48, 49])]),
  (17, [(5, [0, 4, 7]), (23, [0, 4, 7])]),
  (18, [(4, [1, 3]), (9, [1, 4]), (14, [1, 5])]),
  (20, [(5, [1, 2, 3, 4]), (9, [1, 2, 3, 5]), (14, [1, 2, 3, 6, 7]), (19, [1, 2, 3, 6, 8])]),
  (21, [(6, [4, 6, 7, 22, 23, 24])]),
  (22, [(3, [3, 6, 7, 8])]),
  (24, [(3, [1, 3, 4])]),
  (25, [(6, [1, 4, 6, 7, 8])]),
  (26, [(4, [0, 1, 5])]),
  (27, [(4, [0, 1, 5])]),
  (28, [(4, [0, 1, 4, 6, 7, 8]), (9, [0, 1, 4, 6, 7, 8, 9, 10])]),
  (29, [(4, [0, 2, 6, 7]), (15, [0, 6, 7])]),
  (30, [(4, [2, 3, 5]), (9, [2, 3, 6])]),
  (31, [(6, [1, 4, 5, 6, 27, 28])]),
  (34, [(6, [1, 2, 17, 18, 19])]),
  (36, [(4, [1, 25, 26, 27])]),
  (37, [(5, [1, 34, 35, 36])]),
  (38, [(4, [8, 9, 10])]),
  (40, [(4, [8, 9, 10])]),
  (43, [(5, [1, 4, 5, 6])]),
  (45, [(4, [0, 1, 4, 5]), (10, [0, 1, 4, 6])]),
  (46, [(3, [0, 1, 4, 5, 6]), (10, [0, 1, 4, 5, 6]), (14, [0, 1, 4, 5])]),
  (47, [(4, [0, 1, 4, 5]), (6, [0, 1, 4, 5])]),
  (48, [(5, [0, 1, 5, 6]), (10, [0, 5])]),
  (51, [(3, [0, 1, 5, 6]), (8, [0, 1, 5, 6, 7]), (15, [0, 5])]),
  (52, [(4, [1, 3])]),
  (53, [(4, [1, 3]), (9, [1, 3, 4])]),
  (54, [(2, [0, 3])]),
  (57, [(3, [1, 2, 3, 4])]),
  (59, [(4, [8, 9, 10])]),
  (62, [(2, [0, 3])]),
  (64, [(15, [2, 3, 4, 6, 11]), (16, [2, 3, 4, 6, 11, 12])]),
  (65, [(6, [4, 5, 6, 7])]),
  (67, [(5, [0, 1, 5, 6, 7, 8])]),
  (68, [(8, [0, 2, 6, 7, 8, 9, 10, 11])]),
  (69, [(5, [1, 5, 6, 7, 8]), (9, [1, 5, 6, 7, 9]), (12, [5, 6, 7])]),
  (70, [(14, [3, 4, 6])]),
  (73, [(4, [0, 1, 5])]),
  (74, [(4, [0, 1, 5])]),
  (84, [(3, [3, 6, 7, 8])]),
  (86, [(6, [0, 3])]),
  (88, [(4, [0, 8, 9, 10])]),
  (89, [(2, [0, 5, 6, 7])]),
  (97, [(3, [0, 1, 5, 6]), (9, [0, 1, 5, 9]), (13, [0, 1, 5])]),
  (98, [(3, [0, 1, 5, 6])]),
  (101, [(9, [2, 4, 6, 9])]),
  (103, [(8, [0, 1, 4, 6])]),
  (107, [(4, [0, 3])]),
  (108, [(2, [0, 3])]),
  (114, [(3, [0, 1, 5, 6])]),
  (122, [(2, [0, 1, 4, 5])]),
  (124, [(8, [0, 3, 6, 7, 8]), (13, [0, 3, 6, 7, 8])]),
  (125, [(2, [1, 2, 5])]),
  (129, [(24, [2, 4, 6, 15, 16])]),
  (130, [(4, [0, 1, 5])]),
  (132, [(4, [0, 1, 5])]),
  (133, [(2, [0, 1, 7, 8])]),
  (145, [(7, [0, 5, 6])]),
  (146, [(5, [0, 2, 4, 7, 8])]),
  (147, [(9, [0, 1, 2, 8, 9])]),
  (149, [(5, [0, 3, 4])]),
  (151, [(4, [0, 3])]),
  (154, [(3, [0, 1, 2, 8, 9, 10])]),
  (176, [(5, [0, 1, 6, 7])]),
  (182, [(2, [0, 1, 5])]),
  (196, [(3, [0, 1, 2, 8, 9, 10])])]
def TKl : List (Nat × List (Nat × List Nat)) := [(17, [(14, [16803])]),
  (46, [(15, [123984])]),
  (67, [(10, [82512])]),
  (191, [(2, [30000000]), (4, [30000000])])]
def HLl : List (Nat × List (Nat × List Nat)) := [(140, [(9, [5500000003, 5500000004]), (11, [7400000003, 7400000004]), (12, [8400000004])]),
  (142, [(4, [3300000003, 3300000004])])]
def isIn (n : Nat) : Option (List Nat) → Bool
  | some l => l.any (Nat.beq n)
  | none => false
noncomputable instance : Cx := ⟨Tryz.prog, fun f => look f FTl, fun t => look t TBl, fun f => look f SGl, fun f r => (look f STl).bind (look r), fun f r n => isIn n ((look f TKl).bind (look r)), fun f r n => isIn n ((look f HLl).bind (look r)), fun f r => ((look f HLl).bind (look r)).getD []⟩
def AllP {α : Type} (p : Nat → α → Prop) : List (Nat × α) → Prop
  | [] => True
  | x :: l => p x.1 x.2 ∧ AllP p l
theorem look_all {α : Type} {p : Nat → α → Prop} {k : Nat} {y : α} : ∀ {l : List (Nat × α)}, AllP p l → look k l = some y → p k y
  | x :: l, h, e => by
    simp only [look] at e
    cases b : Nat.beq x.1 k with
    | true => rw [b] at e; obtain rfl := Option.some.inj e; have := Nat.eq_of_beq_eq_true b; subst this; exact h.1
    | false => rw [b] at e; exact look_all h.2 e
theorem td3 : TD Tryz.prog (.int .i64) 3 := ⟨Tryz.underlying3, ⟨Tryz.t3, by kernel_rfl, by kernel_rfl, fun _ => ⟨.int .i64 0, by kernel_rfl, by kernel_rfl⟩⟩⟩
theorem td4 : TD Tryz.prog .bool 4 := ⟨Tryz.underlying4, ⟨Tryz.t4, by kernel_rfl, by kernel_rfl, fun _ => ⟨.bool false, by kernel_rfl, by kernel_rfl⟩⟩⟩
theorem td5 : TD Tryz.prog (.int .u8) 5 := ⟨Tryz.underlying5, ⟨Tryz.t5, by kernel_rfl, by kernel_rfl, fun _ => ⟨.int .u8 0, by kernel_rfl, by kernel_rfl⟩⟩⟩
theorem td9 : TD Tryz.prog .str 9 := ⟨Tryz.underlying9, ⟨Tryz.t9, by kernel_rfl, by kernel_rfl, fun _ => ⟨.string ⟨#[]⟩, by kernel_rfl, by kernel_rfl⟩⟩⟩
theorem td22 : TD Tryz.prog (.sl (.int .u8)) 22 := ⟨5, Tryz.underlying22, ⟨Tryz.t22, by kernel_rfl, by kernel_rfl, fun _ => ⟨.slice none 0 0, by kernel_rfl, by kernel_rfl⟩⟩, td5⟩
theorem td24 : TD Tryz.prog Y_impl_Interval 24 := ⟨_, Tryz.underlying24, ⟨Tryz.t24, by kernel_rfl, by kernel_rfl, fun _ => ⟨.agg #[.string ⟨#[]⟩, .string ⟨#[]⟩], by kernel_rfl, by kernel_rfl⟩⟩, ⟨rfl, by decide, td9, ⟨rfl, by decide, td9, trivial⟩⟩, by kernel_rfl, by kernel_rfl⟩
theorem td109 : TD Tryz.prog Y_impl_Pair 109 := ⟨_, Tryz.underlying109, ⟨Tryz.t109, by kernel_rfl, by kernel_rfl, fun _ => ⟨.agg #[.string ⟨#[]⟩, .int .i64 0], by kernel_rfl, by kernel_rfl⟩⟩, ⟨rfl, by decide, td9, ⟨rfl, by decide, td3, trivial⟩⟩, by kernel_rfl, by kernel_rfl⟩
theorem td25 : TD Tryz.prog (.sl Y_impl_Pair) 25 := ⟨109, Tryz.underlying25, ⟨Tryz.t25, by kernel_rfl, by kernel_rfl, fun _ => ⟨.slice none 0 0, by kernel_rfl, by kernel_rfl⟩⟩, td109⟩
theorem td111 : TD Tryz.prog Y_impl_Session 111 := ⟨_, Tryz.underlying111, ⟨Tryz.t111, by kernel_rfl, by kernel_rfl, fun _ => ⟨.agg #[.int .i64 0, .int .i64 0, .int .i64 0], by kernel_rfl, by kernel_rfl⟩⟩, ⟨rfl, by decide, td3, ⟨rfl, by decide, td3, ⟨rfl, by decide, td3, trivial⟩⟩⟩, by kernel_rfl, by kernel_rfl⟩
theorem td26 : TD Tryz.prog (.sl Y_impl_Session) 26 := ⟨111, Tryz.underlying26, ⟨Tryz.t26, by kernel_rfl, by kernel_rfl, fun _ => ⟨.slice none 0 0, by kernel_rfl, by kernel_rfl⟩⟩, td111⟩
theorem td28 : TD Tryz.prog Y_impl_State 28 := ⟨_, Tryz.underlying28, ⟨Tryz.t28, by kernel_rfl, by kernel_rfl, fun _ => ⟨.agg #[.string ⟨#[]⟩, .string ⟨#[]⟩, .slice none 0 0, .slice none 0 0, .bool false, .string ⟨#[]⟩], by kernel_rfl, by kernel_rfl⟩⟩, ⟨rfl, by decide, td24, ⟨rfl, by decide, td25, ⟨rfl, by decide, td26, ⟨rfl, by decide, td4, ⟨rfl, by decide, td9, trivial⟩⟩⟩⟩⟩, by kernel_rfl, by kernel_rfl⟩
theorem td29 : TD Tryz.prog (.sl (.int .i64)) 29 := ⟨3, Tryz.underlying29, ⟨Tryz.t29, by kernel_rfl, by kernel_rfl, fun _ => ⟨.slice none 0 0, by kernel_rfl, by kernel_rfl⟩⟩, td3⟩
theorem td31 : TD Tryz.prog Y_impl_Config 31 := ⟨_, Tryz.underlying31, ⟨Tryz.t31, by kernel_rfl, by kernel_rfl, fun _ => ⟨.agg #[.int .i64 0, .slice none 0 0, .bool false], by kernel_rfl, by kernel_rfl⟩⟩, ⟨rfl, by decide, td3, ⟨rfl, by decide, td29, ⟨rfl, by decide, td4, trivial⟩⟩⟩, by kernel_rfl, by kernel_rfl⟩
theorem td66 : TD Tryz.prog Y_impl_Command 66 := ⟨_, Tryz.underlying66, ⟨Tryz.t66, by kernel_rfl, by kernel_rfl, fun _ => ⟨.agg #[.int .i64 0, .string ⟨#[]⟩, .int .i64 0, .int .i64 0], by kernel_rfl, by kernel_rfl⟩⟩, ⟨rfl, by decide, td3, ⟨rfl, by decide, td9, ⟨rfl, by decide, td3, ⟨rfl, by decide, td3, trivial⟩⟩⟩⟩, by kernel_rfl, by kernel_rfl⟩
theorem td68 : TD Tryz.prog Y_impl_Entry 68 := ⟨_, Tryz.underlying68, ⟨Tryz.t68, by kernel_rfl, by kernel_rfl, fun _ => ⟨.agg #[.int .i64 0, .int .i64 0, .int .i64 0, .string ⟨#[]⟩, .int .i64 0, .int .i64 0], by kernel_rfl, by kernel_rfl⟩⟩, ⟨rfl, by decide, td3, ⟨rfl, by decide, td3, ⟨rfl, by decide, td66, trivial⟩⟩⟩, by kernel_rfl, by kernel_rfl⟩
theorem td58 : TD Tryz.prog (.sl Y_impl_Entry) 58 := ⟨68, Tryz.underlying58, ⟨Tryz.t58, by kernel_rfl, by kernel_rfl, fun _ => ⟨.slice none 0 0, by kernel_rfl, by kernel_rfl⟩⟩, td68⟩
theorem td82 : TD Tryz.prog Y_impl_Replica 82 := ⟨_, Tryz.underlying82, ⟨Tryz.t82, by kernel_rfl, by kernel_rfl, fun _ => ⟨.agg #[.int .i64 0, .slice none 0 0, .bool false, .bool false, .slice none 0 0], by kernel_rfl, by kernel_rfl⟩⟩, ⟨rfl, by decide, td31, ⟨rfl, by decide, td4, ⟨rfl, by decide, td58, trivial⟩⟩⟩, by kernel_rfl, by kernel_rfl⟩
theorem td32 : TD Tryz.prog (.sl Y_impl_Replica) 32 := ⟨82, Tryz.underlying32, ⟨Tryz.t32, by kernel_rfl, by kernel_rfl, fun _ => ⟨.slice none 0 0, by kernel_rfl, by kernel_rfl⟩⟩, td82⟩
theorem td33 : TD Tryz.prog (.sl .bool) 33 := ⟨4, Tryz.underlying33, ⟨Tryz.t33, by kernel_rfl, by kernel_rfl, fun _ => ⟨.slice none 0 0, by kernel_rfl, by kernel_rfl⟩⟩, td4⟩
theorem td85 : TD Tryz.prog Y_impl_Message 85 := ⟨_, Tryz.underlying85, ⟨Tryz.t85, by kernel_rfl, by kernel_rfl, fun _ => ⟨.agg #[.int .i64 0, .int .i64 0, .int .i64 0, .int .i64 0, .slice none 0 0, .bool false, .slice none 0 0], by kernel_rfl, by kernel_rfl⟩⟩, ⟨rfl, by decide, td3, ⟨rfl, by decide, td3, ⟨rfl, by decide, td3, ⟨rfl, by decide, td31, ⟨rfl, by decide, td58, trivial⟩⟩⟩⟩⟩, by kernel_rfl, by kernel_rfl⟩
theorem td34 : TD Tryz.prog (.sl Y_impl_Message) 34 := ⟨85, Tryz.underlying34, ⟨Tryz.t34, by kernel_rfl, by kernel_rfl, fun _ => ⟨.slice none 0 0, by kernel_rfl, by kernel_rfl⟩⟩, td85⟩
theorem td100 : TD Tryz.prog Y_impl_Answer 100 := ⟨_, Tryz.underlying100, ⟨Tryz.t100, by kernel_rfl, by kernel_rfl, fun _ => ⟨.agg #[.int .i64 0, .int .i64 0, .int .i64 0, .string ⟨#[]⟩, .int .i64 0, .int .i64 0, .int .i64 0], by kernel_rfl, by kernel_rfl⟩⟩, ⟨rfl, by decide, td68, ⟨rfl, by decide, td3, trivial⟩⟩, by kernel_rfl, by kernel_rfl⟩
theorem td35 : TD Tryz.prog (.sl Y_impl_Answer) 35 := ⟨100, Tryz.underlying35, ⟨Tryz.t35, by kernel_rfl, by kernel_rfl, fun _ => ⟨.slice none 0 0, by kernel_rfl, by kernel_rfl⟩⟩, td100⟩
theorem td37 : TD Tryz.prog Y_impl_Chain 37 := ⟨_, Tryz.underlying37, ⟨Tryz.t37, by kernel_rfl, by kernel_rfl, fun _ => ⟨.agg #[.string ⟨#[]⟩, .string ⟨#[]⟩, .slice none 0 0, .slice none 0 0, .bool false, .string ⟨#[]⟩, .int .i64 0, .slice none 0 0, .bool false, .slice none 0 0, .slice none 0 0, .slice none 0 0, .slice none 0 0], by kernel_rfl, by kernel_rfl⟩⟩, ⟨rfl, by decide, td28, ⟨rfl, by decide, td31, ⟨rfl, by decide, td32, ⟨rfl, by decide, td33, ⟨rfl, by decide, td34, ⟨rfl, by decide, td35, trivial⟩⟩⟩⟩⟩⟩, by kernel_rfl, by kernel_rfl⟩
theorem td70 : TD Tryz.prog Y_impl_Event 70 := ⟨_, Tryz.underlying70, ⟨Tryz.t70, by kernel_rfl, by kernel_rfl, fun _ => ⟨.agg #[.int .i64 0, .int .i64 0, .int .i64 0, .int .i64 0, .int .i64 0, .int .i64 0, .string ⟨#[]⟩, .int .i64 0, .int .i64 0], by kernel_rfl, by kernel_rfl⟩⟩, ⟨rfl, by decide, td3, ⟨rfl, by decide, td3, ⟨rfl, by decide, td3, ⟨rfl, by decide, td68, trivial⟩⟩⟩⟩, by kernel_rfl, by kernel_rfl⟩
theorem td43 : TD Tryz.prog (.sl Y_impl_Event) 43 := ⟨70, Tryz.underlying43, ⟨Tryz.t43, by kernel_rfl, by kernel_rfl, fun _ => ⟨.slice none 0 0, by kernel_rfl, by kernel_rfl⟩⟩, td70⟩
theorem td52 : TD Tryz.prog (.bx Y_spec_l20Rd) 52 := ⟨91, Tryz.underlying52, ⟨Tryz.t52, by kernel_rfl, by kernel_rfl, fun h => by cases h⟩⟩
theorem td88 : TD Tryz.prog (.bx Y_impl_Chain) 88 := ⟨37, Tryz.underlying88, ⟨Tryz.t88, by kernel_rfl, by kernel_rfl, fun h => by cases h⟩⟩
theorem td91 : TD Tryz.prog Y_spec_l20Rd 91 := ⟨_, Tryz.underlying91, ⟨Tryz.t91, by kernel_rfl, by kernel_rfl, fun _ => ⟨.agg #[.slice none 0 0, .int .i64 0], by kernel_rfl, by kernel_rfl⟩⟩, ⟨rfl, by decide, td22, ⟨rfl, by decide, td3, trivial⟩⟩, by kernel_rfl, by kernel_rfl⟩
theorem td141 : TD Tryz.prog (.sl Y_impl_Config) 141 := ⟨31, Tryz.underlying141, ⟨Tryz.t141, by kernel_rfl, by kernel_rfl, fun _ => ⟨.slice none 0 0, by kernel_rfl, by kernel_rfl⟩⟩, td31⟩
theorem td158 : TD Tryz.prog (.sl (.sl (.int .i64))) 158 := ⟨29, Tryz.underlying158, ⟨Tryz.t158, by kernel_rfl, by kernel_rfl, fun _ => ⟨.slice none 0 0, by kernel_rfl, by kernel_rfl⟩⟩, td29⟩
theorem td166 : TD Tryz.prog (.sl Y_impl_Interval) 166 := ⟨24, Tryz.underlying166, ⟨Tryz.t166, by kernel_rfl, by kernel_rfl, fun _ => ⟨.slice none 0 0, by kernel_rfl, by kernel_rfl⟩⟩, td24⟩
theorem td174 : TD Tryz.prog (.sl .str) 174 := ⟨9, Tryz.underlying174, ⟨Tryz.t174, by kernel_rfl, by kernel_rfl, fun _ => ⟨.slice none 0 0, by kernel_rfl, by kernel_rfl⟩⟩, td9⟩
theorem td175 : TD Tryz.prog (.sl Y_impl_Command) 175 := ⟨66, Tryz.underlying175, ⟨Tryz.t175, by kernel_rfl, by kernel_rfl, fun _ => ⟨.slice none 0 0, by kernel_rfl, by kernel_rfl⟩⟩, td66⟩
theorem td197 : TD Tryz.prog (.int .u64) 197 := ⟨Tryz.underlying197, ⟨Tryz.t197, by kernel_rfl, by kernel_rfl, fun _ => ⟨.int .u64 0, by kernel_rfl, by kernel_rfl⟩⟩⟩
theorem tb_all : AllP (fun t (ti : TI) => TD Tryz.prog ti.ty t ∧ ∀ a, ti.ty = .sl a → ∃ e i, Tryz.prog.underlying t = some (.slice e) ∧ Tryz.prog.info? e = some i ∧ i.bytes = ti.eb) TBl := ⟨⟨td3, fun _ h => by cases h⟩, ⟨⟨td4, fun _ h => by cases h⟩, ⟨⟨td5, fun _ h => by cases h⟩, ⟨⟨td9, fun _ h => by cases h⟩, ⟨⟨td22, fun _ h => ⟨5, Tryz.t5, Tryz.underlying22, by kernel_rfl, by kernel_rfl⟩⟩, ⟨⟨td24, fun _ h => by cases h⟩, ⟨⟨td25, fun _ h => ⟨109, Tryz.t109, Tryz.underlying25, by kernel_rfl, by kernel_rfl⟩⟩, ⟨⟨td26, fun _ h => ⟨111, Tryz.t111, Tryz.underlying26, by kernel_rfl, by kernel_rfl⟩⟩, ⟨⟨td28, fun _ h => by cases h⟩, ⟨⟨td29, fun _ h => ⟨3, Tryz.t3, Tryz.underlying29, by kernel_rfl, by kernel_rfl⟩⟩, ⟨⟨td31, fun _ h => by cases h⟩, ⟨⟨td32, fun _ h => ⟨82, Tryz.t82, Tryz.underlying32, by kernel_rfl, by kernel_rfl⟩⟩, ⟨⟨td33, fun _ h => ⟨4, Tryz.t4, Tryz.underlying33, by kernel_rfl, by kernel_rfl⟩⟩, ⟨⟨td34, fun _ h => ⟨85, Tryz.t85, Tryz.underlying34, by kernel_rfl, by kernel_rfl⟩⟩, ⟨⟨td35, fun _ h => ⟨100, Tryz.t100, Tryz.underlying35, by kernel_rfl, by kernel_rfl⟩⟩, ⟨⟨td37, fun _ h => by cases h⟩, ⟨⟨td43, fun _ h => ⟨70, Tryz.t70, Tryz.underlying43, by kernel_rfl, by kernel_rfl⟩⟩, ⟨⟨td52, fun _ h => by cases h⟩, ⟨⟨td58, fun _ h => ⟨68, Tryz.t68, Tryz.underlying58, by kernel_rfl, by kernel_rfl⟩⟩, ⟨⟨td66, fun _ h => by cases h⟩, ⟨⟨td68, fun _ h => by cases h⟩, ⟨⟨td70, fun _ h => by cases h⟩, ⟨⟨td82, fun _ h => by cases h⟩, ⟨⟨td85, fun _ h => by cases h⟩, ⟨⟨td88, fun _ h => by cases h⟩, ⟨⟨td91, fun _ h => by cases h⟩, ⟨⟨td100, fun _ h => by cases h⟩, ⟨⟨td109, fun _ h => by cases h⟩, ⟨⟨td111, fun _ h => by cases h⟩, ⟨⟨td141, fun _ h => ⟨31, Tryz.t31, Tryz.underlying141, by kernel_rfl, by kernel_rfl⟩⟩, ⟨⟨td158, fun _ h => ⟨29, Tryz.t29, Tryz.underlying158, by kernel_rfl, by kernel_rfl⟩⟩, ⟨⟨td166, fun _ h => ⟨24, Tryz.t24, Tryz.underlying166, by kernel_rfl, by kernel_rfl⟩⟩, ⟨⟨td174, fun _ h => ⟨9, Tryz.t9, Tryz.underlying174, by kernel_rfl, by kernel_rfl⟩⟩, ⟨⟨td175, fun _ h => ⟨66, Tryz.t66, Tryz.underlying175, by kernel_rfl, by kernel_rfl⟩⟩, ⟨⟨td197, fun _ h => by cases h⟩, trivial⟩⟩⟩⟩⟩⟩⟩⟩⟩⟩⟩⟩⟩⟩⟩⟩⟩⟩⟩⟩⟩⟩⟩⟩⟩⟩⟩⟩⟩⟩⟩⟩⟩⟩⟩
theorem ft_all : AllP (fun f (fn : Func) => Tryz.prog.funcs[f]? = some fn ∧ (fn.name == "runtime.NumGoroutine") = false) FTl := ⟨⟨Tryz.func3, by kernel_rfl⟩, ⟨⟨Tryz.func4, by kernel_rfl⟩, ⟨⟨Tryz.func5, by kernel_rfl⟩, ⟨⟨Tryz.func6, by kernel_rfl⟩, ⟨⟨Tryz.func7, by kernel_rfl⟩, ⟨⟨Tryz.func8, by kernel_rfl⟩, ⟨⟨Tryz.func9, by kernel_rfl⟩, ⟨⟨Tryz.func10, by kernel_rfl⟩, ⟨⟨Tryz.func11, by kernel_rfl⟩, ⟨⟨Tryz.func12, by kernel_rfl⟩, ⟨⟨Tryz.func13, by kernel_rfl⟩, ⟨⟨Tryz.func14, by kernel_rfl⟩, ⟨⟨Tryz.func15, by kernel_rfl⟩, ⟨⟨Tryz.func16, by kernel_rfl⟩, ⟨⟨Tryz.func17, by kernel_rfl⟩, ⟨⟨Tryz.func18, by kernel_rfl⟩, ⟨⟨Tryz.func19, by kernel_rfl⟩, ⟨⟨Tryz.func20, by kernel_rfl⟩, ⟨⟨Tryz.func21, by kernel_rfl⟩, ⟨⟨Tryz.func22, by kernel_rfl⟩, ⟨⟨Tryz.func23, by kernel_rfl⟩, ⟨⟨Tryz.func24, by kernel_rfl⟩, ⟨⟨Tryz.func25, by kernel_rfl⟩, ⟨⟨Tryz.func26, by kernel_rfl⟩, ⟨⟨Tryz.func27, by kernel_rfl⟩, ⟨⟨Tryz.func28, by kernel_rfl⟩, ⟨⟨Tryz.func29, by kernel_rfl⟩, ⟨⟨Tryz.func30, by kernel_rfl⟩, ⟨⟨Tryz.func31, by kernel_rfl⟩, ⟨⟨Tryz.func32, by kernel_rfl⟩, ⟨⟨Tryz.func33, by kernel_rfl⟩, ⟨⟨Tryz.func34, by kernel_rfl⟩, ⟨⟨Tryz.func35, by kernel_rfl⟩, ⟨⟨Tryz.func36, by kernel_rfl⟩, ⟨⟨Tryz.func37, by kernel_rfl⟩, ⟨⟨Tryz.func38, by kernel_rfl⟩, ⟨⟨Tryz.func39, by kernel_rfl⟩, ⟨⟨Tryz.func40, by kernel_rfl⟩, ⟨⟨Tryz.func41, by kernel_rfl⟩, ⟨⟨Tryz.func42, by kernel_rfl⟩, ⟨⟨Tryz.func43, by kernel_rfl⟩, ⟨⟨Tryz.func44, by kernel_rfl⟩, ⟨⟨Tryz.func45, by kernel_rfl⟩, ⟨⟨Tryz.func46, by kernel_rfl⟩, ⟨⟨Tryz.func47, by kernel_rfl⟩, ⟨⟨Tryz.func48, by kernel_rfl⟩, ⟨⟨Tryz.func49, by kernel_rfl⟩, ⟨⟨Tryz.func50, by kernel_rfl⟩, ⟨⟨Tryz.func51, by kernel_rfl⟩, ⟨⟨Tryz.func52, by kernel_rfl⟩, ⟨⟨Tryz.func53, by kernel_rfl⟩, ⟨⟨Tryz.func54, by kernel_rfl⟩, ⟨⟨Tryz.func55, by kernel_rfl⟩, ⟨⟨Tryz.func56, by kernel_rfl⟩, ⟨⟨Tryz.func57, by kernel_rfl⟩, ⟨⟨Tryz.func58, by kernel_rfl⟩, ⟨⟨Tryz.func59, by kernel_rfl⟩, ⟨⟨Tryz.func60, by kernel_rfl⟩, ⟨⟨Tryz.func61, by kernel_rfl⟩, ⟨⟨Tryz.func62, by kernel_rfl⟩, ⟨⟨Tryz.func63, by kernel_rfl⟩, ⟨⟨Tryz.func64, by kernel_rfl⟩, ⟨⟨Tryz.func65, by kernel_rfl⟩, ⟨⟨Tryz.func66, by kernel_rfl⟩, ⟨⟨Tryz.func67, by kernel_rfl⟩, ⟨⟨Tryz.func68, by kernel_rfl⟩, ⟨⟨Tryz.func69, by kernel_rfl⟩, ⟨⟨Tryz.func70, by kernel_rfl⟩, ⟨⟨Tryz.func71, by kernel_rfl⟩, ⟨⟨Tryz.func72, by kernel_rfl⟩, ⟨⟨Tryz.func73, by kernel_rfl⟩, ⟨⟨Tryz.func74, by kernel_rfl⟩, ⟨⟨Tryz.func75, by kernel_rfl⟩, ⟨⟨Tryz.func76, by kernel_rfl⟩, ⟨⟨Tryz.func77, by kernel_rfl⟩, ⟨⟨Tryz.func78, by kernel_rfl⟩, ⟨⟨Tryz.func79, by kernel_rfl⟩, ⟨⟨Tryz.func80, by kernel_rfl⟩, ⟨⟨Tryz.func81, by kernel_rfl⟩, ⟨⟨Tryz.func82, by kernel_rfl⟩, ⟨⟨Tryz.func83, by kernel_rfl⟩, ⟨⟨Tryz.func84, by kernel_rfl⟩, ⟨⟨Tryz.func85, by kernel_rfl⟩, ⟨⟨Tryz.func86, by kernel_rfl⟩, ⟨⟨Tryz.func87, by kernel_rfl⟩, ⟨⟨Tryz.func88, by kernel_rfl⟩, ⟨⟨Tryz.func89, by kernel_rfl⟩, ⟨⟨Tryz.func90, by kernel_rfl⟩, ⟨⟨Tryz.func91, by kernel_rfl⟩, ⟨⟨Tryz.func92, by kernel_rfl⟩, ⟨⟨Tryz.func93, by kernel_rfl⟩, ⟨⟨Tryz.func94, by kernel_rfl⟩, ⟨⟨Tryz.func95, by kernel_rfl⟩, ⟨⟨Tryz.func96, by kernel_rfl⟩, ⟨⟨Tryz.func97, by kernel_rfl⟩, ⟨⟨Tryz.func98, by kernel_rfl⟩, ⟨⟨Tryz.func99, by kernel_rfl⟩, ⟨⟨Tryz.func100, by kernel_rfl⟩, ⟨⟨Tryz.func101, by kernel_rfl⟩, ⟨⟨Tryz.func102, by kernel_rfl⟩, ⟨⟨Tryz.func103, by kernel_rfl⟩, ⟨⟨Tryz.func104, by kernel_rfl⟩, ⟨⟨Tryz.func105, by kernel_rfl⟩, ⟨⟨Tryz.func106, by kernel_rfl⟩, ⟨⟨Tryz.func107, by kernel_rfl⟩, ⟨⟨Tryz.func108, by kernel_rfl⟩, ⟨⟨Tryz.func109, by kernel_rfl⟩, ⟨⟨Tryz.func110, by kernel_rfl⟩, ⟨⟨Tryz.func111, by kernel_rfl⟩, ⟨⟨Tryz.func112, by kernel_rfl⟩, ⟨⟨Tryz.func113, by kernel_rfl⟩, ⟨⟨Tryz.func114, by kernel_rfl⟩, ⟨⟨Tryz.func115, by kernel_rfl⟩, ⟨⟨Tryz.func116, by kernel_rfl⟩, ⟨⟨Tryz.func117, by kernel_rfl⟩, ⟨⟨Tryz.func118, by kernel_rfl⟩, ⟨⟨Tryz.func119, by kernel_rfl⟩, ⟨⟨Tryz.func120, by kernel_rfl⟩, ⟨⟨Tryz.func121, by kernel_rfl⟩, ⟨⟨Tryz.func122, by kernel_rfl⟩, ⟨⟨Tryz.func123, by kernel_rfl⟩, ⟨⟨Tryz.func124, by kernel_rfl⟩, ⟨⟨Tryz.func125, by kernel_rfl⟩, ⟨⟨Tryz.func126, by kernel_rfl⟩, ⟨⟨Tryz.func127, by kernel_rfl⟩, ⟨⟨Tryz.func128, by kernel_rfl⟩, ⟨⟨Tryz.func129, by kernel_rfl⟩, ⟨⟨Tryz.func130, by kernel_rfl⟩, ⟨⟨Tryz.func131, by kernel_rfl⟩, ⟨⟨Tryz.func132, by kernel_rfl⟩, ⟨⟨Tryz.func133, by kernel_rfl⟩, ⟨⟨Tryz.func134, by kernel_rfl⟩, ⟨⟨Tryz.func135, by kernel_rfl⟩, ⟨⟨Tryz.func136, by kernel_rfl⟩, ⟨⟨Tryz.func137, by kernel_rfl⟩, ⟨⟨Tryz.func138, by kernel_rfl⟩, ⟨⟨Tryz.func139, by kernel_rfl⟩, ⟨⟨Tryz.func140, by kernel_rfl⟩, ⟨⟨Tryz.func141, by kernel_rfl⟩, ⟨⟨Tryz.func142, by kernel_rfl⟩, ⟨⟨Tryz.func143, by kernel_rfl⟩, ⟨⟨Tryz.func144, by kernel_rfl⟩, ⟨⟨Tryz.func145, by kernel_rfl⟩, ⟨⟨Tryz.func146, by kernel_rfl⟩, ⟨⟨Tryz.func147, by kernel_rfl⟩, ⟨⟨Tryz.func148, by kernel_rfl⟩, ⟨⟨Tryz.func149, by kernel_rfl⟩, ⟨⟨Tryz.func150, by kernel_rfl⟩, ⟨⟨Tryz.func151, by kernel_rfl⟩, ⟨⟨Tryz.func152, by kernel_rfl⟩, ⟨⟨Tryz.func153, by kernel_rfl⟩, ⟨⟨Tryz.func154, by kernel_rfl⟩, ⟨⟨Tryz.func155, by kernel_rfl⟩, ⟨⟨Tryz.func156, by kernel_rfl⟩, ⟨⟨Tryz.func157, by kernel_rfl⟩, ⟨⟨Tryz.func158, by kernel_rfl⟩, ⟨⟨Tryz.func159, by kernel_rfl⟩, ⟨⟨Tryz.func160, by kernel_rfl⟩, ⟨⟨Tryz.func161, by kernel_rfl⟩, ⟨⟨Tryz.func162, by kernel_rfl⟩, ⟨⟨Tryz.func163, by kernel_rfl⟩, ⟨⟨Tryz.func164, by kernel_rfl⟩, ⟨⟨Tryz.func165, by kernel_rfl⟩, ⟨⟨Tryz.func166, by kernel_rfl⟩, ⟨⟨Tryz.func167, by kernel_rfl⟩, ⟨⟨Tryz.func168, by kernel_rfl⟩, ⟨⟨Tryz.func169, by kernel_rfl⟩, ⟨⟨Tryz.func170, by kernel_rfl⟩, ⟨⟨Tryz.func171, by kernel_rfl⟩, ⟨⟨Tryz.func172, by kernel_rfl⟩, ⟨⟨Tryz.func173, by kernel_rfl⟩, ⟨⟨Tryz.func174, by kernel_rfl⟩, ⟨⟨Tryz.func175, by kernel_rfl⟩, ⟨⟨Tryz.func176, by kernel_rfl⟩, ⟨⟨Tryz.func177, by kernel_rfl⟩, ⟨⟨Tryz.func178, by kernel_rfl⟩, ⟨⟨Tryz.func179, by kernel_rfl⟩, ⟨⟨Tryz.func180, by kernel_rfl⟩, ⟨⟨Tryz.func181, by kernel_rfl⟩, ⟨⟨Tryz.func182, by kernel_rfl⟩, ⟨⟨Tryz.func183, by kernel_rfl⟩, ⟨⟨Tryz.func184, by kernel_rfl⟩, ⟨⟨Tryz.func185, by kernel_rfl⟩, ⟨⟨Tryz.func186, by kernel_rfl⟩, ⟨⟨Tryz.func187, by kernel_rfl⟩, ⟨⟨Tryz.func188, by kernel_rfl⟩, ⟨⟨Tryz.func189, by kernel_rfl⟩, ⟨⟨Tryz.func190, by kernel_rfl⟩, ⟨⟨Tryz.func191, by kernel_rfl⟩, ⟨⟨Tryz.func192, by kernel_rfl⟩, ⟨⟨Tryz.func193, by kernel_rfl⟩, ⟨⟨Tryz.func194, by kernel_rfl⟩, ⟨⟨Tryz.func195, by kernel_rfl⟩, ⟨⟨Tryz.func196, by kernel_rfl⟩, ⟨⟨Tryz.func197, by kernel_rfl⟩, ⟨⟨Tryz.func198, by kernel_rfl⟩, ⟨⟨Tryz.func199, by kernel_rfl⟩, trivial⟩⟩⟩⟩⟩⟩⟩⟩⟩⟩⟩⟩⟩⟩⟩⟩⟩⟩⟩⟩⟩⟩⟩⟩⟩⟩⟩⟩⟩⟩⟩⟩⟩⟩⟩⟩⟩⟩⟩⟩⟩⟩⟩⟩⟩⟩⟩⟩⟩⟩⟩⟩⟩⟩⟩⟩⟩⟩⟩⟩⟩⟩⟩⟩⟩⟩⟩⟩⟩⟩⟩⟩⟩⟩⟩⟩⟩⟩⟩⟩⟩⟩⟩⟩⟩⟩⟩⟩⟩⟩⟩⟩⟩⟩⟩⟩⟩⟩⟩⟩⟩⟩⟩⟩⟩⟩⟩⟩⟩⟩⟩⟩⟩⟩⟩⟩⟩⟩⟩⟩⟩⟩⟩⟩⟩⟩⟩⟩⟩⟩⟩⟩⟩⟩⟩⟩⟩⟩⟩⟩⟩⟩⟩⟩⟩⟩⟩⟩⟩⟩⟩⟩⟩⟩⟩⟩⟩⟩⟩⟩⟩⟩⟩⟩⟩⟩⟩⟩⟩⟩⟩⟩⟩⟩⟩⟩⟩⟩⟩⟩⟩⟩⟩⟩⟩⟩⟩⟩⟩⟩⟩⟩⟩⟩⟩⟩⟩
theorem zz : ∀ i, tto i (tz i) = (TR i).dflt
  | 0 => rfl
  | 1 => rfl
  | 2 => rfl
  | 3 => rfl
  | 4 => rfl
  | 5 => rfl
  | 6 => rfl
  | 7 => rfl
  | 8 => rfl
  | 9 => rfl
  | 10 => rfl
  | 11 => rfl
  | 12 => rfl
  | 13 => rfl
  | 14 => rfl
  | 15 => rfl
  | 16 => rfl
  | 17 => rfl
  | 18 => rfl
  | 19 => rfl
  | 20 => rfl
  | 21 => rfl
  | 22 => rfl
  | 23 => rfl
  | 24 => rfl
  | 25 => rfl
  | _ + 26 => rfl
theorem good : Good := ⟨fun _ _ h => look_all ft_all h, fun _ _ h => look_all tb_all h, zz, by kernel_rfl⟩
def lit (l : List UInt8) : ByteArray := ⟨l.toArray⟩
def es : ByteArray := ⟨#[]⟩
/-- What is still to be done from a region on. -/
def conts : Code → List Item → Nat → Option (List Item)
  | .seq a b, k, r => match conts a (.code b :: k) r with
    | some x => some x
    | none => conts b k r
  | .cond _ x y, k, r => match conts x k r with
    | some x => some x
    | none => conts y k r
  | .block l b, k, r => conts b (.inBlock l :: k) r
  | .loop b, k, r => conts b (.inLoop b :: k) r
  | .region i ops draw, k, r => bif Nat.beq i r then some (.code (.region i ops draw) :: k) else none
  | _, _, _ => none
noncomputable def cont (f r : Nat) : List Item := match look f FTl with
  | some fn => match fn.body with
    | some c => (conts c [] r).getD []
    | none => []
  | none => []
end Go.Proofs.YthkdkojfahaeaaaGreat.Ev
