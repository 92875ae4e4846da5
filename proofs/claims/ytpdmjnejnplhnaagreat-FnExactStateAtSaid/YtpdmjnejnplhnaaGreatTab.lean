/- The program's types and functions as the evaluator's tables. No condition. -/
import Derived.Test.YtpdmjnejnplhnaaGreatEngC
import Derived.Test.YtpdmjnejnplhnaaGreatProg
set_option maxRecDepth 100000
namespace Go.Proofs.YtpdmjnejnplhnaaGreat.Ev
open Go.Proofs.YtpdmjnejnplhnaaGreat.Eng
/-- laws.Interval -/
structure laws_Interval where
  Low : ByteArray
  High : ByteArray
/-- laws.Pair -/
structure laws_Pair where
  Key : ByteArray
  Value : Int
/-- laws.Session -/
structure laws_Session where
  Client : Int
  Seq : Int
  Reply : Int
/-- laws.State -/
structure laws_State where
  Span : laws_Interval
  Pairs : (List laws_Pair)
  Known : (List laws_Session)
  Sealed : Bool
  Cut : ByteArray
/-- laws.Config -/
structure laws_Config where
  Epoch : Int
  Members : (List Int)
  Fresh : Bool
/-- laws.Command -/
structure laws_Command where
  Kind : Int
  Key : ByteArray
  Value : Int
  Old : Int
/-- laws.Entry -/
structure laws_Entry where
  Client : Int
  Seq : Int
  Cmd : laws_Command
/-- laws.Replica -/
structure laws_Replica where
  Conf : laws_Config
  Ready : Bool
  Log : (List laws_Entry)
/-- laws.Message -/
structure laws_Message where
  Kind : Int
  To : Int
  Epoch : Int
  Conf : laws_Config
  Log : (List laws_Entry)
/-- laws.Answer -/
structure laws_Answer where
  Asked : laws_Entry
  Reply : Int
/-- laws.Chain -/
structure laws_Chain where
  Base : laws_State
  Conf : laws_Config
  Nodes : (List laws_Replica)
  Up : (List Bool)
  Bag : (List laws_Message)
  Answers : (List laws_Answer)
/-- impl.Interval -/
structure impl_Interval where
  Low : ByteArray
  High : ByteArray
/-- impl.Pair -/
structure impl_Pair where
  Key : ByteArray
  Value : Int
/-- impl.Session -/
structure impl_Session where
  Client : Int
  Seq : Int
  Reply : Int
/-- impl.State -/
structure impl_State where
  Span : impl_Interval
  Pairs : (List impl_Pair)
  Known : (List impl_Session)
  Sealed : Bool
  Cut : ByteArray
/-- impl.Config -/
structure impl_Config where
  Epoch : Int
  Members : (List Int)
  Fresh : Bool
/-- impl.Command -/
structure impl_Command where
  Kind : Int
  Key : ByteArray
  Value : Int
  Old : Int
/-- impl.Entry -/
structure impl_Entry where
  Client : Int
  Seq : Int
  Cmd : impl_Command
/-- impl.Replica -/
structure impl_Replica where
  Conf : impl_Config
  Ready : Bool
  Log : (List impl_Entry)
/-- impl.Message -/
structure impl_Message where
  Kind : Int
  To : Int
  Epoch : Int
  Conf : impl_Config
  Log : (List impl_Entry)
/-- impl.Answer -/
structure impl_Answer where
  Asked : impl_Entry
  Reply : Int
/-- impl.Chain -/
structure impl_Chain where
  Base : impl_State
  Conf : impl_Config
  Nodes : (List impl_Replica)
  Up : (List Bool)
  Bag : (List impl_Message)
  Answers : (List impl_Answer)
abbrev R_laws_Interval : Ty := (.pair .str (.pair .str .unit))
abbrev Y_laws_Interval : Ty := .st 10 R_laws_Interval
abbrev R_laws_Pair : Ty := (.pair .str (.pair (.int .i64) .unit))
abbrev Y_laws_Pair : Ty := .st 11 R_laws_Pair
abbrev R_laws_Session : Ty := (.pair (.int .i64) (.pair (.int .i64) (.pair (.int .i64) .unit)))
abbrev Y_laws_Session : Ty := .st 12 R_laws_Session
abbrev R_laws_State : Ty := (.pair Y_laws_Interval (.pair (.sl Y_laws_Pair) (.pair (.sl Y_laws_Session) (.pair .bool (.pair .str .unit)))))
abbrev Y_laws_State : Ty := .st 14 R_laws_State
abbrev R_laws_Config : Ty := (.pair (.int .i64) (.pair (.sl (.int .i64)) (.pair .bool .unit)))
abbrev Y_laws_Config : Ty := .st 16 R_laws_Config
abbrev R_laws_Command : Ty := (.pair (.int .i64) (.pair .str (.pair (.int .i64) (.pair (.int .i64) .unit))))
abbrev Y_laws_Command : Ty := .st 19 R_laws_Command
abbrev R_laws_Entry : Ty := (.pair (.int .i64) (.pair (.int .i64) (.pair Y_laws_Command .unit)))
abbrev Y_laws_Entry : Ty := .st 18 R_laws_Entry
abbrev R_laws_Replica : Ty := (.pair Y_laws_Config (.pair .bool (.pair (.sl Y_laws_Entry) .unit)))
abbrev Y_laws_Replica : Ty := .st 17 R_laws_Replica
abbrev R_laws_Message : Ty := (.pair (.int .i64) (.pair (.int .i64) (.pair (.int .i64) (.pair Y_laws_Config (.pair (.sl Y_laws_Entry) .unit)))))
abbrev Y_laws_Message : Ty := .st 20 R_laws_Message
abbrev R_laws_Answer : Ty := (.pair Y_laws_Entry (.pair (.int .i64) .unit))
abbrev Y_laws_Answer : Ty := .st 21 R_laws_Answer
abbrev R_laws_Chain : Ty := (.pair Y_laws_State (.pair Y_laws_Config (.pair (.sl Y_laws_Replica) (.pair (.sl .bool) (.pair (.sl Y_laws_Message) (.pair (.sl Y_laws_Answer) .unit))))))
abbrev Y_laws_Chain : Ty := .st 23 R_laws_Chain
abbrev R_impl_Interval : Ty := (.pair .str (.pair .str .unit))
abbrev Y_impl_Interval : Ty := .st 24 R_impl_Interval
abbrev R_impl_Pair : Ty := (.pair .str (.pair (.int .i64) .unit))
abbrev Y_impl_Pair : Ty := .st 25 R_impl_Pair
abbrev R_impl_Session : Ty := (.pair (.int .i64) (.pair (.int .i64) (.pair (.int .i64) .unit)))
abbrev Y_impl_Session : Ty := .st 26 R_impl_Session
abbrev R_impl_State : Ty := (.pair Y_impl_Interval (.pair (.sl Y_impl_Pair) (.pair (.sl Y_impl_Session) (.pair .bool (.pair .str .unit)))))
abbrev Y_impl_State : Ty := .st 28 R_impl_State
abbrev R_impl_Config : Ty := (.pair (.int .i64) (.pair (.sl (.int .i64)) (.pair .bool .unit)))
abbrev Y_impl_Config : Ty := .st 29 R_impl_Config
abbrev R_impl_Command : Ty := (.pair (.int .i64) (.pair .str (.pair (.int .i64) (.pair (.int .i64) .unit))))
abbrev Y_impl_Command : Ty := .st 32 R_impl_Command
abbrev R_impl_Entry : Ty := (.pair (.int .i64) (.pair (.int .i64) (.pair Y_impl_Command .unit)))
abbrev Y_impl_Entry : Ty := .st 31 R_impl_Entry
abbrev R_impl_Replica : Ty := (.pair Y_impl_Config (.pair .bool (.pair (.sl Y_impl_Entry) .unit)))
abbrev Y_impl_Replica : Ty := .st 30 R_impl_Replica
abbrev R_impl_Message : Ty := (.pair (.int .i64) (.pair (.int .i64) (.pair (.int .i64) (.pair Y_impl_Config (.pair (.sl Y_impl_Entry) .unit)))))
abbrev Y_impl_Message : Ty := .st 33 R_impl_Message
abbrev R_impl_Answer : Ty := (.pair Y_impl_Entry (.pair (.int .i64) .unit))
abbrev Y_impl_Answer : Ty := .st 34 R_impl_Answer
abbrev R_impl_Chain : Ty := (.pair Y_impl_State (.pair Y_impl_Config (.pair (.sl Y_impl_Replica) (.pair (.sl .bool) (.pair (.sl Y_impl_Message) (.pair (.sl Y_impl_Answer) .unit))))))
abbrev Y_impl_Chain : Ty := .st 36 R_impl_Chain
def TT : Nat → Type
  | 0 => Unit
  | 1 => Unit
  | 2 => Unit
  | 3 => Unit
  | 4 => Unit
  | 5 => Unit
  | 6 => Unit
  | 7 => Unit
  | 8 => Unit
  | 9 => Unit
  | 10 => laws_Interval
  | 11 => laws_Pair
  | 12 => laws_Session
  | 13 => Unit
  | 14 => laws_State
  | 15 => Unit
  | 16 => laws_Config
  | 17 => laws_Replica
  | 18 => laws_Entry
  | 19 => laws_Command
  | 20 => laws_Message
  | 21 => laws_Answer
  | 22 => Unit
  | 23 => laws_Chain
  | 24 => impl_Interval
  | 25 => impl_Pair
  | 26 => impl_Session
  | 27 => Unit
  | 28 => impl_State
  | 29 => impl_Config
  | 30 => impl_Replica
  | 31 => impl_Entry
  | 32 => impl_Command
  | 33 => impl_Message
  | 34 => impl_Answer
  | 35 => Unit
  | 36 => impl_Chain
  | _ + 37 => Unit
def TR : Nat → Ty
  | 0 => .unit
  | 1 => .unit
  | 2 => .unit
  | 3 => .unit
  | 4 => .unit
  | 5 => .unit
  | 6 => .unit
  | 7 => .unit
  | 8 => .unit
  | 9 => .unit
  | 10 => R_laws_Interval
  | 11 => R_laws_Pair
  | 12 => R_laws_Session
  | 13 => .unit
  | 14 => R_laws_State
  | 15 => .unit
  | 16 => R_laws_Config
  | 17 => R_laws_Replica
  | 18 => R_laws_Entry
  | 19 => R_laws_Command
  | 20 => R_laws_Message
  | 21 => R_laws_Answer
  | 22 => .unit
  | 23 => R_laws_Chain
  | 24 => R_impl_Interval
  | 25 => R_impl_Pair
  | 26 => R_impl_Session
  | 27 => .unit
  | 28 => R_impl_State
  | 29 => R_impl_Config
  | 30 => R_impl_Replica
  | 31 => R_impl_Entry
  | 32 => R_impl_Command
  | 33 => R_impl_Message
  | 34 => R_impl_Answer
  | 35 => .unit
  | 36 => R_impl_Chain
  | _ + 37 => .unit
def tto : ∀ i, TT i → (TR i).den TT
  | 0 => fun _ => ()
  | 1 => fun _ => ()
  | 2 => fun _ => ()
  | 3 => fun _ => ()
  | 4 => fun _ => ()
  | 5 => fun _ => ()
  | 6 => fun _ => ()
  | 7 => fun _ => ()
  | 8 => fun _ => ()
  | 9 => fun _ => ()
  | 10 => fun x => (x.Low, x.High, ())
  | 11 => fun x => (x.Key, x.Value, ())
  | 12 => fun x => (x.Client, x.Seq, x.Reply, ())
  | 13 => fun _ => ()
  | 14 => fun x => (x.Span, x.Pairs, x.Known, x.Sealed, x.Cut, ())
  | 15 => fun _ => ()
  | 16 => fun x => (x.Epoch, x.Members, x.Fresh, ())
  | 17 => fun x => (x.Conf, x.Ready, x.Log, ())
  | 18 => fun x => (x.Client, x.Seq, x.Cmd, ())
  | 19 => fun x => (x.Kind, x.Key, x.Value, x.Old, ())
  | 20 => fun x => (x.Kind, x.To, x.Epoch, x.Conf, x.Log, ())
  | 21 => fun x => (x.Asked, x.Reply, ())
  | 22 => fun _ => ()
  | 23 => fun x => (x.Base, x.Conf, x.Nodes, x.Up, x.Bag, x.Answers, ())
  | 24 => fun x => (x.Low, x.High, ())
  | 25 => fun x => (x.Key, x.Value, ())
  | 26 => fun x => (x.Client, x.Seq, x.Reply, ())
  | 27 => fun _ => ()
  | 28 => fun x => (x.Span, x.Pairs, x.Known, x.Sealed, x.Cut, ())
  | 29 => fun x => (x.Epoch, x.Members, x.Fresh, ())
  | 30 => fun x => (x.Conf, x.Ready, x.Log, ())
  | 31 => fun x => (x.Client, x.Seq, x.Cmd, ())
  | 32 => fun x => (x.Kind, x.Key, x.Value, x.Old, ())
  | 33 => fun x => (x.Kind, x.To, x.Epoch, x.Conf, x.Log, ())
  | 34 => fun x => (x.Asked, x.Reply, ())
  | 35 => fun _ => ()
  | 36 => fun x => (x.Base, x.Conf, x.Nodes, x.Up, x.Bag, x.Answers, ())
  | _ + 37 => fun _ => ()
def tof : ∀ i, (TR i).den TT → TT i
  | 0 => fun _ => ()
  | 1 => fun _ => ()
  | 2 => fun _ => ()
  | 3 => fun _ => ()
  | 4 => fun _ => ()
  | 5 => fun _ => ()
  | 6 => fun _ => ()
  | 7 => fun _ => ()
  | 8 => fun _ => ()
  | 9 => fun _ => ()
  | 10 => fun x => ⟨x.1, x.2.1⟩
  | 11 => fun x => ⟨x.1, x.2.1⟩
  | 12 => fun x => ⟨x.1, x.2.1, x.2.2.1⟩
  | 13 => fun _ => ()
  | 14 => fun x => ⟨x.1, x.2.1, x.2.2.1, x.2.2.2.1, x.2.2.2.2.1⟩
  | 15 => fun _ => ()
  | 16 => fun x => ⟨x.1, x.2.1, x.2.2.1⟩
  | 17 => fun x => ⟨x.1, x.2.1, x.2.2.1⟩
  | 18 => fun x => ⟨x.1, x.2.1, x.2.2.1⟩
  | 19 => fun x => ⟨x.1, x.2.1, x.2.2.1, x.2.2.2.1⟩
  | 20 => fun x => ⟨x.1, x.2.1, x.2.2.1, x.2.2.2.1, x.2.2.2.2.1⟩
  | 21 => fun x => ⟨x.1, x.2.1⟩
  | 22 => fun _ => ()
  | 23 => fun x => ⟨x.1, x.2.1, x.2.2.1, x.2.2.2.1, x.2.2.2.2.1, x.2.2.2.2.2.1⟩
  | 24 => fun x => ⟨x.1, x.2.1⟩
  | 25 => fun x => ⟨x.1, x.2.1⟩
  | 26 => fun x => ⟨x.1, x.2.1, x.2.2.1⟩
  | 27 => fun _ => ()
  | 28 => fun x => ⟨x.1, x.2.1, x.2.2.1, x.2.2.2.1, x.2.2.2.2.1⟩
  | 29 => fun x => ⟨x.1, x.2.1, x.2.2.1⟩
  | 30 => fun x => ⟨x.1, x.2.1, x.2.2.1⟩
  | 31 => fun x => ⟨x.1, x.2.1, x.2.2.1⟩
  | 32 => fun x => ⟨x.1, x.2.1, x.2.2.1, x.2.2.2.1⟩
  | 33 => fun x => ⟨x.1, x.2.1, x.2.2.1, x.2.2.2.1, x.2.2.2.2.1⟩
  | 34 => fun x => ⟨x.1, x.2.1⟩
  | 35 => fun _ => ()
  | 36 => fun x => ⟨x.1, x.2.1, x.2.2.1, x.2.2.2.1, x.2.2.2.2.1, x.2.2.2.2.2.1⟩
  | _ + 37 => fun _ => ()
def z_laws_Interval : laws_Interval := ⟨⟨#[]⟩, ⟨#[]⟩⟩
def z_laws_Pair : laws_Pair := ⟨⟨#[]⟩, (0 : Int)⟩
def z_laws_Session : laws_Session := ⟨(0 : Int), (0 : Int), (0 : Int)⟩
def z_laws_State : laws_State := ⟨z_laws_Interval, [], [], false, ⟨#[]⟩⟩
def z_laws_Config : laws_Config := ⟨(0 : Int), [], false⟩
def z_laws_Command : laws_Command := ⟨(0 : Int), ⟨#[]⟩, (0 : Int), (0 : Int)⟩
def z_laws_Entry : laws_Entry := ⟨(0 : Int), (0 : Int), z_laws_Command⟩
def z_laws_Replica : laws_Replica := ⟨z_laws_Config, false, []⟩
def z_laws_Message : laws_Message := ⟨(0 : Int), (0 : Int), (0 : Int), z_laws_Config, []⟩
def z_laws_Answer : laws_Answer := ⟨z_laws_Entry, (0 : Int)⟩
def z_laws_Chain : laws_Chain := ⟨z_laws_State, z_laws_Config, [], [], [], []⟩
def z_impl_Interval : impl_Interval := ⟨⟨#[]⟩, ⟨#[]⟩⟩
def z_impl_Pair : impl_Pair := ⟨⟨#[]⟩, (0 : Int)⟩
def z_impl_Session : impl_Session := ⟨(0 : Int), (0 : Int), (0 : Int)⟩
def z_impl_State : impl_State := ⟨z_impl_Interval, [], [], false, ⟨#[]⟩⟩
def z_impl_Config : impl_Config := ⟨(0 : Int), [], false⟩
def z_impl_Command : impl_Command := ⟨(0 : Int), ⟨#[]⟩, (0 : Int), (0 : Int)⟩
def z_impl_Entry : impl_Entry := ⟨(0 : Int), (0 : Int), z_impl_Command⟩
def z_impl_Replica : impl_Replica := ⟨z_impl_Config, false, []⟩
def z_impl_Message : impl_Message := ⟨(0 : Int), (0 : Int), (0 : Int), z_impl_Config, []⟩
def z_impl_Answer : impl_Answer := ⟨z_impl_Entry, (0 : Int)⟩
def z_impl_Chain : impl_Chain := ⟨z_impl_State, z_impl_Config, [], [], [], []⟩
def tz : ∀ i, TT i
  | 0 => ()
  | 1 => ()
  | 2 => ()
  | 3 => ()
  | 4 => ()
  | 5 => ()
  | 6 => ()
  | 7 => ()
  | 8 => ()
  | 9 => ()
  | 10 => z_laws_Interval
  | 11 => z_laws_Pair
  | 12 => z_laws_Session
  | 13 => ()
  | 14 => z_laws_State
  | 15 => ()
  | 16 => z_laws_Config
  | 17 => z_laws_Replica
  | 18 => z_laws_Entry
  | 19 => z_laws_Command
  | 20 => z_laws_Message
  | 21 => z_laws_Answer
  | 22 => ()
  | 23 => z_laws_Chain
  | 24 => z_impl_Interval
  | 25 => z_impl_Pair
  | 26 => z_impl_Session
  | 27 => ()
  | 28 => z_impl_State
  | 29 => z_impl_Config
  | 30 => z_impl_Replica
  | 31 => z_impl_Entry
  | 32 => z_impl_Command
  | 33 => z_impl_Message
  | 34 => z_impl_Answer
  | 35 => ()
  | 36 => z_impl_Chain
  | _ + 37 => ()
theorem t1 : ∀ i (x : (TR i).den TT), tto i (tof i x) = x
  | 0 => fun _ => rfl
  | 1 => fun _ => rfl
  | 2 => fun _ => rfl
  | 3 => fun _ => rfl
  | 4 => fun _ => rfl
  | 5 => fun _ => rfl
  | 6 => fun _ => rfl
  | 7 => fun _ => rfl
  | 8 => fun _ => rfl
  | 9 => fun _ => rfl
  | 10 => fun _ => rfl
  | 11 => fun _ => rfl
  | 12 => fun _ => rfl
  | 13 => fun _ => rfl
  | 14 => fun _ => rfl
  | 15 => fun _ => rfl
  | 16 => fun _ => rfl
  | 17 => fun _ => rfl
  | 18 => fun _ => rfl
  | 19 => fun _ => rfl
  | 20 => fun _ => rfl
  | 21 => fun _ => rfl
  | 22 => fun _ => rfl
  | 23 => fun _ => rfl
  | 24 => fun _ => rfl
  | 25 => fun _ => rfl
  | 26 => fun _ => rfl
  | 27 => fun _ => rfl
  | 28 => fun _ => rfl
  | 29 => fun _ => rfl
  | 30 => fun _ => rfl
  | 31 => fun _ => rfl
  | 32 => fun _ => rfl
  | 33 => fun _ => rfl
  | 34 => fun _ => rfl
  | 35 => fun _ => rfl
  | 36 => fun _ => rfl
  | _ + 37 => fun _ => rfl
theorem t2 : ∀ i (x : TT i), tof i (tto i x) = x
  | 0 => fun _ => rfl
  | 1 => fun _ => rfl
  | 2 => fun _ => rfl
  | 3 => fun _ => rfl
  | 4 => fun _ => rfl
  | 5 => fun _ => rfl
  | 6 => fun _ => rfl
  | 7 => fun _ => rfl
  | 8 => fun _ => rfl
  | 9 => fun _ => rfl
  | 10 => fun _ => rfl
  | 11 => fun _ => rfl
  | 12 => fun _ => rfl
  | 13 => fun _ => rfl
  | 14 => fun _ => rfl
  | 15 => fun _ => rfl
  | 16 => fun _ => rfl
  | 17 => fun _ => rfl
  | 18 => fun _ => rfl
  | 19 => fun _ => rfl
  | 20 => fun _ => rfl
  | 21 => fun _ => rfl
  | 22 => fun _ => rfl
  | 23 => fun _ => rfl
  | 24 => fun _ => rfl
  | 25 => fun _ => rfl
  | 26 => fun _ => rfl
  | 27 => fun _ => rfl
  | 28 => fun _ => rfl
  | 29 => fun _ => rfl
  | 30 => fun _ => rfl
  | 31 => fun _ => rfl
  | 32 => fun _ => rfl
  | 33 => fun _ => rfl
  | 34 => fun _ => rfl
  | 35 => fun _ => rfl
  | 36 => fun _ => rfl
  | _ + 37 => fun _ => rfl
instance : Tys := ⟨TT, TR, tto, tof, tz, t1, t2⟩
def look {α : Type} (k : Nat) : List (Nat × α) → Option α
  | [] => none
  | x :: l => bif Nat.beq x.1 k then some x.2 else look k l
noncomputable def FTl : List (Nat × Func) := [(5, Tryz.f5), (6, Tryz.f6), (8, Tryz.f8), (10, Tryz.f10), (13, Tryz.f13), (14, Tryz.f14), (15, Tryz.f15), (16, Tryz.f16), (17, Tryz.f17), (18, Tryz.f18), (19, Tryz.f19), (20, Tryz.f20), (21, Tryz.f21), (22, Tryz.f22), (23, Tryz.f23), (24, Tryz.f24), (25, Tryz.f25), (26, Tryz.f26), (27, Tryz.f27), (28, Tryz.f28), (29, Tryz.f29), (30, Tryz.f30), (31, Tryz.f31), (32, Tryz.f32), (33, Tryz.f33), (34, Tryz.f34), (35, Tryz.f35), (36, Tryz.f36), (37, Tryz.f37), (38, Tryz.f38), (39, Tryz.f39), (40, Tryz.f40), (41, Tryz.f41), (42, Tryz.f42), (43, Tryz.f43), (44, Tryz.f44), (45, Tryz.f45), (46, Tryz.f46), (47, Tryz.f47), (48, Tryz.f48), (49, Tryz.f49), (50, Tryz.f50), (51, Tryz.f51), (52, Tryz.f52), (53, Tryz.f53), (54, Tryz.f54), (55, Tryz.f55), (56, Tryz.f56), (57, Tryz.f57), (58, Tryz.f58), (59, Tryz.f59), (60, Tryz.f60), (61, Tryz.f61), (62, Tryz.f62), (63, Tryz.f63), (64, Tryz.f64), (65, Tryz.f65), (66, Tryz.f66), (67, Tryz.f67), (68, Tryz.f68), (69, Tryz.f69), (70, Tryz.f70), (71, Tryz.f71), (72, Tryz.f72), (73, Tryz.f73), (74, Tryz.f74), (75, Tryz.f75), (76, Tryz.f76), (77, Tryz.f77), (78, Tryz.f78), (79, Tryz.f79), (80, Tryz.f80), (81, Tryz.f81), (82, Tryz.f82), (83, Tryz.f83), (84, Tryz.f84), (85, Tryz.f85), (86, Tryz.f86), (87, Tryz.f87), (88, Tryz.f88), (89, Tryz.f89), (90, Tryz.f90), (91, Tryz.f91), (92, Tryz.f92), (93, Tryz.f93), (94, Tryz.f94), (95, Tryz.f95), (96, Tryz.f96), (97, Tryz.f97), (98, Tryz.f98), (99, Tryz.f99), (100, Tryz.f100), (101, Tryz.f101), (102, Tryz.f102), (103, Tryz.f103), (104, Tryz.f104), (105, Tryz.f105), (106, Tryz.f106), (107, Tryz.f107), (108, Tryz.f108), (109, Tryz.f109), (110, Tryz.f110), (111, Tryz.f111), (112, Tryz.f112), (113, Tryz.f113), (114, Tryz.f114), (115, Tryz.f115), (116, Tryz.f116), (117, Tryz.f117), (118, Tryz.f118), (119, Tryz.f119), (120, Tryz.f120), (121, Tryz.f121), (122, Tryz.f122), (123, Tryz.f123), (124, Tryz.f124), (125, Tryz.f125), (126, Tryz.f126), (127, Tryz.f127), (128, Tryz.f128), (129, Tryz.f129), (130, Tryz.f130), (131, Tryz.f131), (132, Tryz.f132), (133, Tryz.f133), (134, Tryz.f134), (135, Tryz.f135), (136, Tryz.f136), (137, Tryz.f137), (138, Tryz.f138), (139, Tryz.f139), (140, Tryz.f140), (141, Tryz.f141), (142, Tryz.f142), (143, Tryz.f143), (144, Tryz.f144), (145, Tryz.f145), (146, Tryz.f146), (147, Tryz.f147), (148, Tryz.f148), (149, Tryz.f149), (150, Tryz.f150), (151, Tryz.f151), (152, Tryz.f152), (153, Tryz.f153), (154, Tryz.f154), (155, Tryz.f155), (156, Tryz.f156), (157, Tryz.f157), (158, Tryz.f158), (159, Tryz.f159)]
def TBl : List (Nat × TI) := [(3, ⟨(.int .i64), 0⟩), (4, ⟨.bool, 0⟩), (5, ⟨(.int .u8), 0⟩), (9, ⟨.str, 0⟩), (23, ⟨Y_laws_Interval, 0⟩), (24, ⟨(.sl Y_laws_Pair), 24⟩), (25, ⟨(.sl Y_laws_Session), 24⟩), (27, ⟨Y_laws_State, 0⟩), (28, ⟨(.sl (.int .i64)), 8⟩), (30, ⟨Y_laws_Config, 0⟩), (31, ⟨(.sl Y_laws_Replica), 72⟩), (32, ⟨(.sl .bool), 1⟩), (33, ⟨(.sl Y_laws_Message), 88⟩), (34, ⟨(.sl Y_laws_Answer), 64⟩), (36, ⟨Y_laws_Chain, 0⟩), (39, ⟨Y_impl_Interval, 0⟩), (40, ⟨(.sl Y_impl_Pair), 24⟩), (41, ⟨(.sl Y_impl_Session), 24⟩), (43, ⟨Y_impl_State, 0⟩), (44, ⟨Y_impl_Config, 0⟩), (45, ⟨(.sl Y_impl_Replica), 72⟩), (46, ⟨(.sl Y_impl_Message), 88⟩), (47, ⟨(.sl Y_impl_Answer), 64⟩), (49, ⟨Y_impl_Chain, 0⟩), (81, ⟨(.sl Y_impl_Entry), 56⟩), (100, ⟨(.sl Y_laws_Entry), 56⟩), (102, ⟨Y_laws_Replica, 0⟩), (105, ⟨Y_laws_Message, 0⟩), (108, ⟨Y_laws_Command, 0⟩), (110, ⟨Y_laws_Entry, 0⟩), (112, ⟨Y_laws_Answer, 0⟩), (115, ⟨Y_impl_Pair, 0⟩), (121, ⟨Y_impl_Replica, 0⟩), (124, ⟨Y_impl_Message, 0⟩), (126, ⟨Y_impl_Command, 0⟩), (128, ⟨Y_impl_Entry, 0⟩), (130, ⟨Y_impl_Answer, 0⟩), (151, ⟨Y_impl_Session, 0⟩), (155, ⟨Y_laws_Pair, 0⟩), (161, ⟨Y_laws_Session, 0⟩), (187, ⟨(.sl (.int .u8)), 1⟩), (190, ⟨(.int .u64), 0⟩)]
def SGl : List (Nat × Sig) := [(5, ⟨[.bor, .bor], (.pair .bool .unit), .lit⟩),
  (6, ⟨[.bor, .bor], (.pair (.int .i64) .unit), .lit⟩),
  (8, ⟨[.bor], (.pair Y_impl_Chain .unit), (.pair (.pair (.pair .lit (.pair (.own .lit) (.pair (.own .lit) .lit))) (.pair (.pair .lit (.pair (.own .lit) .lit)) (.pair (.own (.pair (.pair .lit (.pair (.own .lit) .lit)) (.pair .lit (.pair (.own .lit) .lit)))) (.pair (.own .lit) (.pair (.own (.pair .lit (.pair .lit (.pair .lit (.pair (.pair .lit (.pair (.own .lit) .lit)) (.pair (.own .lit) .lit)))))) (.pair (.own .lit) .lit)))))) .lit)⟩),
  (10, ⟨[.bor, .bor], (.pair .bool .unit), .lit⟩),
  (13, ⟨[.bor, .bor], (.pair (.tc Y_impl_State (.tc .bool .unit)) .unit), (.pair (.pair (.pair .lit (.pair (.own .lit) (.pair (.own .lit) .lit))) .lit) .lit)⟩),
  (14, ⟨[.bor, .bor], (.pair (.tc Y_impl_State (.tc .bool .unit)) .unit), (.pair (.pair (.pair .lit (.pair (.own .lit) (.pair (.own .lit) .lit))) .lit) .lit)⟩),
  (15, ⟨[.bor, .bor], (.pair .bool .unit), .lit⟩),
  (16, ⟨[.io, .bor], (.pair (.int .i64) (.tc Y_impl_Chain .unit)), (.pair .lit (.pair (.pair (.pair .lit (.pair (.own .lit) (.pair (.own .lit) .lit))) (.pair (.pair .lit (.pair (.own .lit) .lit)) (.pair (.own (.pair (.pair .lit (.pair (.own .lit) .lit)) (.pair .lit (.pair (.own .lit) .lit)))) (.pair (.own .lit) (.pair (.own (.pair .lit (.pair .lit (.pair .lit (.pair (.pair .lit (.pair (.own .lit) .lit)) (.pair (.own .lit) .lit)))))) (.pair (.own .lit) .lit)))))) .lit))⟩),
  (17, ⟨[.io, .bor], (.pair (.int .i64) (.tc Y_impl_State .unit)), (.pair .lit (.pair (.pair .lit (.pair (.own .lit) (.pair (.own .lit) .lit))) .lit))⟩),
  (18, ⟨[.bor, .bor], (.pair (.int .i64) .unit), .lit⟩),
  (19, ⟨[.bor, .bor], (.pair (.int .i64) .unit), .lit⟩),
  (20, ⟨[.bor, .bor], (.pair (.int .i64) .unit), .lit⟩),
  (21, ⟨[.bor, .bor], (.pair (.int .i64) .unit), .lit⟩),
  (22, ⟨[.bor, .bor], (.pair (.int .i64) .unit), .lit⟩),
  (23, ⟨[.bor, .bor], (.pair (.int .i64) .unit), .lit⟩),
  (24, ⟨[.bor, .bor], (.pair (.int .i64) .unit), .lit⟩),
  (25, ⟨[.bor, .bor], (.pair (.int .i64) .unit), .lit⟩),
  (26, ⟨[.bor], (.pair Y_impl_State .unit), (.pair (.pair .lit (.pair (.own .lit) (.pair (.own .lit) .lit))) .lit)⟩),
  (27, ⟨[.bor], (.pair Y_impl_Config .unit), (.pair (.pair .lit (.pair (.own .lit) .lit)) .lit)⟩),
  (28, ⟨[.bor], (.pair (.sl Y_impl_Replica) .unit), (.pair (.own (.pair (.pair .lit (.pair (.own .lit) .lit)) (.pair .lit (.pair (.own .lit) .lit)))) .lit)⟩),
  (29, ⟨[.bor], (.pair (.sl .bool) .unit), (.pair (.own .lit) .lit)⟩),
  (30, ⟨[.bor], (.pair (.sl Y_impl_Message) .unit), (.pair (.own (.pair .lit (.pair .lit (.pair .lit (.pair (.pair .lit (.pair (.own .lit) .lit)) (.pair (.own .lit) .lit)))))) .lit)⟩),
  (31, ⟨[.bor], (.pair (.sl Y_impl_Answer) .unit), (.pair (.own .lit) .lit)⟩),
  (32, ⟨[.bor, .bor], (.pair (.int .i64) .unit), .lit⟩),
  (33, ⟨[.bor, .bor], (.pair .bool .unit), .lit⟩),
  (34, ⟨[.bor, .bor], (.pair .bool .unit), .lit⟩),
  (35, ⟨[.bor, .bor], (.pair .bool .unit), .lit⟩),
  (36, ⟨[.bor, .bor], (.pair .bool .unit), .lit⟩),
  (37, ⟨[.bor, .bor], (.pair .bool .unit), .lit⟩),
  (38, ⟨[.bor], (.pair .bool .unit), .lit⟩),
  (39, ⟨[.bor], (.pair .bool .unit), .lit⟩),
  (40, ⟨[.bor, .bor, .bor], (.pair .bool .unit), .lit⟩),
  (41, ⟨[.bor], (.pair (.sl Y_impl_Entry) .unit), (.pair (.own .lit) .lit)⟩),
  (42, ⟨[.bor, .bor], (.pair (.tc Y_impl_State (.tc (.sl (.int .i64)) .unit)) .unit), (.pair (.pair (.pair .lit (.pair (.own .lit) (.pair (.own .lit) .lit))) (.pair (.own .lit) .lit)) .lit)⟩),
  (43, ⟨[.bor, .bor], (.pair (.tc Y_impl_State (.tc (.sl (.int .i64)) .unit)) .unit), (.pair (.pair (.pair .lit (.pair (.own .lit) (.pair (.own .lit) .lit))) (.pair (.own .lit) .lit)) .lit)⟩),
  (44, ⟨[.bor], (.pair (.sl Y_impl_Entry) .unit), (.pair (.own .lit) .lit)⟩),
  (45, ⟨[.bor, .bor], (.pair .bool .unit), .lit⟩),
  (46, ⟨[.bor, .bor], (.pair .bool .unit), .lit⟩),
  (47, ⟨[.bor, .bor], (.pair .bool .unit), .lit⟩),
  (48, ⟨[.io, .bor], (.pair (.int .i64) (.tc Y_impl_Config .unit)), (.pair .lit (.pair (.pair .lit (.pair (.own .lit) .lit)) .lit))⟩),
  (49, ⟨[.io, .bor], (.pair (.int .i64) (.tc (.sl Y_impl_Replica) .unit)), (.pair .lit (.pair (.own (.pair (.pair .lit (.pair (.own .lit) .lit)) (.pair .lit (.pair (.own .lit) .lit)))) .lit))⟩),
  (50, ⟨[.io, .bor], (.pair (.int .i64) (.tc (.sl .bool) .unit)), (.pair .lit (.pair (.own .lit) .lit))⟩),
  (51, ⟨[.io, .bor], (.pair (.int .i64) (.tc (.sl Y_impl_Message) .unit)), (.pair .lit (.pair (.own (.pair .lit (.pair .lit (.pair .lit (.pair (.pair .lit (.pair (.own .lit) .lit)) (.pair (.own .lit) .lit)))))) .lit))⟩),
  (52, ⟨[.io, .bor], (.pair (.int .i64) (.tc (.sl Y_impl_Answer) .unit)), (.pair .lit (.pair (.own .lit) .lit))⟩),
  (53, ⟨[.io, .bor], (.pair (.int .i64) (.tc (.sl Y_impl_Pair) .unit)), (.pair .lit (.pair (.own .lit) .lit))⟩),
  (54, ⟨[.io, .bor], (.pair (.int .i64) (.tc (.sl Y_impl_Session) .unit)), (.pair .lit (.pair (.own .lit) .lit))⟩),
  (55, ⟨[.bor, .bor], (.pair (.int .i64) .unit), .lit⟩),
  (56, ⟨[.bor, .bor], (.pair (.int .i64) .unit), .lit⟩),
  (57, ⟨[.bor, .bor], (.pair (.int .i64) .unit), .lit⟩),
  (58, ⟨[.bor, .bor], (.pair (.int .i64) .unit), .lit⟩),
  (59, ⟨[.bor, .bor], (.pair (.int .i64) .unit), .lit⟩),
  (60, ⟨[.bor, .bor], (.pair (.int .i64) .unit), .lit⟩),
  (61, ⟨[.bor, .bor], (.pair (.int .i64) .unit), .lit⟩),
  (62, ⟨[.bor, .bor], (.pair (.int .i64) .unit), .lit⟩),
  (63, ⟨[.bor, .bor], (.pair (.int .i64) .unit), .lit⟩),
  (64, ⟨[.bor, .bor], (.pair (.int .i64) .unit), .lit⟩),
  (65, ⟨[.bor], (.pair .bool .unit), .lit⟩),
  (66, ⟨[.bor], (.pair Y_impl_Interval .unit), .lit⟩),
  (67, ⟨[.bor], (.pair (.sl Y_impl_Pair) .unit), (.pair (.own .lit) .lit)⟩),
  (68, ⟨[.bor], (.pair (.sl Y_impl_Session) .unit), (.pair (.own .lit) .lit)⟩),
  (69, ⟨[.bor], (.pair (.sl (.int .i64)) .unit), (.pair (.own .lit) .lit)⟩),
  (70, ⟨[.bor], (.pair Y_impl_Replica .unit), (.pair (.pair (.pair .lit (.pair (.own .lit) .lit)) (.pair .lit (.pair (.own .lit) .lit))) .lit)⟩),
  (71, ⟨[.bor], (.pair Y_impl_Message .unit), (.pair (.pair .lit (.pair .lit (.pair .lit (.pair (.pair .lit (.pair (.own .lit) .lit)) (.pair (.own .lit) .lit))))) .lit)⟩),
  (72, ⟨[.bor], (.pair Y_impl_Answer .unit), .lit⟩),
  (73, ⟨[.bor], (.pair .bool .unit), .lit⟩),
  (74, ⟨[.bor, .bor], (.pair (.tc (.int .i64) (.tc .bool .unit)) .unit), .lit⟩),
  (75, ⟨[.bor, .bor], (.pair .bool .unit), .lit⟩),
  (76, ⟨[.bor, .bor], (.pair .bool .unit), .lit⟩),
  (77, ⟨[.bor, .bor], (.pair .bool .unit), .lit⟩),
  (78, ⟨[.bor, .bor], (.pair .bool .unit), .lit⟩),
  (79, ⟨[.bor], (.pair .bool .unit), .lit⟩),
  (80, ⟨[.bor], (.pair .bool .unit), .lit⟩),
  (81, ⟨[.bor], (.pair .bool .unit), .lit⟩),
  (82, ⟨[.bor], (.pair .bool .unit), .lit⟩),
  (83, ⟨[.bor], (.pair .bool .unit), .lit⟩),
  (84, ⟨[.bor], (.pair .bool .unit), .lit⟩),
  (85, ⟨[.bor], (.pair .bool .unit), .lit⟩),
  (86, ⟨[.bor], (.pair .bool .unit), .lit⟩),
  (87, ⟨[.bor], (.pair .bool .unit), .lit⟩),
  (88, ⟨[.bor], (.pair .bool .unit), .lit⟩),
  (89, ⟨[.bor], (.pair .bool .unit), .lit⟩),
  (90, ⟨[.bor], (.pair Y_impl_State .unit), (.pair (.pair .lit (.pair (.own .lit) (.pair (.own .lit) .lit))) .lit)⟩),
  (91, ⟨[.bor, .bor], (.pair (.tc Y_impl_State (.tc (.int .i64) .unit)) .unit), (.pair (.pair (.pair .lit (.pair (.own .lit) (.pair (.own .lit) .lit))) .lit) .lit)⟩),
  (92, ⟨[.bor], (.pair .bool .unit), .lit⟩),
  (93, ⟨[.bor], (.pair Y_impl_State .unit), (.pair (.pair .lit (.pair (.own .lit) (.pair (.own .lit) .lit))) .lit)⟩),
  (94, ⟨[.bor, .bor], (.pair (.tc Y_impl_State (.tc (.int .i64) .unit)) .unit), (.pair (.pair (.pair .lit (.pair (.own .lit) (.pair (.own .lit) .lit))) .lit) .lit)⟩),
  (95, ⟨[.bor, .bor], (.pair .bool .unit), .lit⟩),
  (96, ⟨[.bor, .bor], (.pair .bool .unit), .lit⟩),
  (97, ⟨[.io, .bor], (.pair (.int .i64) (.tc (.sl (.int .i64)) .unit)), (.pair .lit (.pair (.own .lit) .lit))⟩),
  (98, ⟨[.io, .bor], (.pair (.int .i64) (.tc (.sl Y_impl_Entry) .unit)), (.pair .lit (.pair (.own .lit) .lit))⟩),
  (99, ⟨[.bor], (.pair .str .unit), .lit⟩),
  (100, ⟨[.bor, .bor], (.pair (.int .i64) .unit), .lit⟩),
  (101, ⟨[.bor, .bor], (.pair (.int .i64) .unit), .lit⟩),
  (102, ⟨[.bor, .bor], (.pair (.int .i64) .unit), .lit⟩),
  (103, ⟨[.bor], (.pair .bool .unit), .lit⟩),
  (104, ⟨[.bor], (.pair Y_impl_Pair .unit), .lit⟩),
  (105, ⟨[.bor], (.pair Y_impl_Session .unit), .lit⟩),
  (106, ⟨[.bor], (.pair (.sl Y_impl_Entry) .unit), (.pair (.own .lit) .lit)⟩),
  (107, ⟨[.bor], (.pair Y_impl_Entry .unit), .lit⟩),
  (108, ⟨[.bor], (.pair .bool .unit), .lit⟩),
  (109, ⟨[.bor], (.pair .bool .unit), .lit⟩),
  (110, ⟨[.bor, .bor, .bor], (.pair (.tc (.int .i64) (.tc .bool .unit)) .unit), .lit⟩),
  (111, ⟨[.bor, .bor], (.pair (.int .i64) .unit), .lit⟩),
  (112, ⟨[.bor, .bor], (.pair (.int .i64) .unit), .lit⟩),
  (113, ⟨[.bor, .bor], (.pair .bool .unit), .lit⟩),
  (114, ⟨[.bor, .bor], (.pair .bool .unit), .lit⟩),
  (115, ⟨[.bor], (.pair .bool .unit), .lit⟩),
  (116, ⟨[.bor], (.pair .bool .unit), .lit⟩),
  (117, ⟨[.bor, .bor], (.pair .bool .unit), .lit⟩),
  (118, ⟨[.bor, .bor], (.pair (.tc Y_impl_Interval (.tc Y_impl_Interval (.tc .bool .unit))) .unit), .lit⟩),
  (119, ⟨[.bor], (.pair .bool .unit), .lit⟩),
  (120, ⟨[.bor], (.pair .bool .unit), .lit⟩),
  (121, ⟨[.bor], (.pair .bool .unit), .lit⟩),
  (122, ⟨[.bor], (.pair .bool .unit), .lit⟩),
  (123, ⟨[.bor], (.pair .bool .unit), .lit⟩),
  (124, ⟨[.bor, .bor], (.pair .bool .unit), .lit⟩),
  (125, ⟨[.bor, .bor], (.pair (.tc Y_impl_Interval (.tc Y_impl_Interval (.tc .bool .unit))) .unit), .lit⟩),
  (126, ⟨[.bor], (.pair .bool .unit), .lit⟩),
  (127, ⟨[.bor, .bor], (.pair .bool .unit), .lit⟩),
  (128, ⟨[.bor], (.pair .bool .unit), .lit⟩),
  (129, ⟨[.bor], (.pair .bool .unit), .lit⟩),
  (130, ⟨[.bor], (.pair .bool .unit), .lit⟩),
  (131, ⟨[.bor, .bor], (.pair Y_impl_Session .unit), .lit⟩),
  (132, ⟨[.bor, .bor], (.pair (.tc (.sl Y_impl_Pair) (.tc (.int .i64) .unit)) .unit), (.pair (.pair (.own .lit) .lit) .lit)⟩),
  (133, ⟨[.bor, .bor], (.pair (.tc (.sl Y_impl_Session) (.tc .bool .unit)) .unit), (.pair (.pair (.own .lit) .lit) .lit)⟩),
  (134, ⟨[.bor], (.pair (.sl Y_impl_Pair) .unit), (.pair (.own .lit) .lit)⟩),
  (135, ⟨[.bor], (.pair (.sl Y_impl_Session) .unit), (.pair (.own .lit) .lit)⟩),
  (136, ⟨[.bor, .bor], (.pair (.tc (.int .i64) (.tc .bool .unit)) .unit), .lit⟩),
  (137, ⟨[.bor, .bor], (.pair .bool .unit), .lit⟩),
  (138, ⟨[.bor, .bor], (.pair (.tc (.sl Y_impl_Pair) (.tc (.int .i64) .unit)) .unit), (.pair (.pair (.own .lit) .lit) .lit)⟩),
  (139, ⟨[.bor, .bor], (.pair (.tc (.sl Y_impl_Session) (.tc .bool .unit)) .unit), (.pair (.pair (.own .lit) .lit) .lit)⟩),
  (140, ⟨[.bor, .bor], (.pair (.int .i64) .unit), .lit⟩),
  (141, ⟨[.bor], (.pair Y_impl_Command .unit), .lit⟩),
  (142, ⟨[.bor], (.pair .bool .unit), .lit⟩),
  (143, ⟨[.bor], (.pair .bool .unit), .lit⟩),
  (144, ⟨[.bor, .bor], (.pair .bool .unit), .lit⟩),
  (145, ⟨[.bor], (.pair .str .unit), .lit⟩),
  (146, ⟨[.bor], (.pair .bool .unit), .lit⟩),
  (147, ⟨[.bor, .bor], (.pair (.int .i64) .unit), .lit⟩),
  (148, ⟨[.bor], (.pair .bool .unit), .lit⟩),
  (149, ⟨[.bor, .bor], (.pair (.tc (.sl Y_impl_Pair) (.tc .bool .unit)) .unit), (.pair (.pair (.own .lit) .lit) .lit)⟩),
  (150, ⟨[.bor, .bor, .bor], (.pair (.tc (.sl Y_impl_Pair) (.tc .bool .unit)) .unit), (.pair (.pair (.own .lit) .lit) .lit)⟩),
  (151, ⟨[.bor, .bor], (.pair (.int .i64) .unit), .lit⟩),
  (152, ⟨[.bor, .bor, .bor], (.pair (.tc (.int .i64) (.tc .bool .unit)) .unit), .lit⟩),
  (153, ⟨[.bor, .bor], (.pair (.int .i64) .unit), .lit⟩),
  (154, ⟨[.bor, .bor], (.pair (.int .i64) .unit), .lit⟩),
  (155, ⟨[.bor, .bor], (.pair (.tc (.sl Y_impl_Pair) (.tc .bool .unit)) .unit), (.pair (.pair (.own .lit) .lit) .lit)⟩),
  (156, ⟨[.bor, .bor, .bor], (.pair (.tc (.sl Y_impl_Pair) (.tc .bool .unit)) .unit), (.pair (.pair (.own .lit) .lit) .lit)⟩),
  (157, ⟨[.bor, .bor, .bor, .bor], (.pair (.sl Y_impl_Session) .unit), (.pair (.own .lit) .lit)⟩),
  (158, ⟨[.bor], (.pair .bool .unit), .lit⟩),
  (159, ⟨[.bor, .bor, .bor, .bor], (.pair (.sl Y_impl_Pair) .unit), (.pair (.own .lit) .lit)⟩)]
def STl : List (Nat × List (Nat × List Nat)) := [(21, [(5, [0, 1, 5])]),
  (23, [(5, [0, 1, 5])]),
  (24, [(5, [0, 1, 5])]),
  (28, [(3, [0, 3, 4])]),
  (29, [(3, [0, 3, 4])]),
  (30, [(3, [0, 3, 4])]),
  (31, [(3, [0, 3, 4])]),
  (34, [(4, [0, 1, 5])]),
  (35, [(4, [0, 1, 5])]),
  (36, [(4, [0, 1, 5])]),
  (37, [(4, [0, 1, 5])]),
  (38, [(4, [1, 3]), (9, [1, 4]), (14, [1, 5])]),
  (39, [(4, [1, 36, 37, 38]), (10, [1, 56, 57, 58])]),
  (41, [(3, [1, 3, 4])]),
  (42, [(6, [1, 4, 6, 7, 8])]),
  (43, [(6, [4, 6, 7, 22, 23, 24])]),
  (44, [(3, [3, 6, 7, 8])]),
  (46, [(4, [0, 1, 5])]),
  (47, [(4, [0, 1, 5])]),
  (49, [(2, [0, 1, 5]), (3, [0, 1, 5]), (5, [0, 1, 5]), (7, [0, 1, 5]), (8, [0, 1, 5]), (10, [0, 1, 5])]),
  (50, [(2, [0, 1, 5])]),
  (51, [(2, [0, 1, 5]), (3, [0, 1, 5]), (5, [0, 1, 5]), (7, [0, 1, 5]), (9, [0, 1, 5]), (11, [0, 1, 5]), (13, [0, 1, 5]), (14, [0, 1, 5])]),
  (52, [(2, [0, 1, 5]), (5, [0, 1, 5]), (7, [0, 1, 5]), (9, [0, 1, 5]), (11, [0, 1, 5]), (13, [0, 1, 5]), (15, [0, 1, 5]), (17, [0, 1, 5])]),
  (53, [(2, [0, 1, 5]), (7, [0, 1, 5])]),
  (54, [(2, [0, 1, 5]), (5, [0, 1, 5]), (7, [0, 1, 5]), (9, [0, 1, 5])]),
  (55, [(2, [0, 1, 5])]),
  (56, [(2, [0, 1, 5])]),
  (58, [(5, [0, 1, 5])]),
  (64, [(2, [0, 1, 5])]),
  (65, [(4, [0, 3])]),
  (67, [(3, [0, 3, 4])]),
  (68, [(3, [0, 3, 4])]),
  (69, [(3, [0, 3, 4])]),
  (73, [(4, [0, 8, 9, 10])]),
  (75, [(4, [0, 1, 5])]),
  (79, [(4, [1, 3])]),
  (80, [(4, [1, 3]), (9, [1, 3, 4])]),
  (81, [(2, [0, 3])]),
  (84, [(4, [1, 25, 26, 27])]),
  (85, [(5, [1, 34, 35, 36])]),
  (86, [(4, [8, 9, 10])]),
  (88, [(4, [8, 9, 10])]),
  (89, [(2, [0, 3])]),
  (91, [(15, [2, 3, 4, 6, 11]), (16, [2, 3, 4, 6, 11, 12])]),
  (92, [(4, [8, 9, 10])]),
  (97, [(2, [0, 1, 5])]),
  (98, [(2, [0, 1, 5]), (5, [0, 1, 5]), (7, [0, 1, 5]), (9, [0, 1, 5]), (11, [0, 1, 5]), (13, [0, 1, 5]), (15, [0, 1, 5])]),
  (99, [(4, [0, 3])]),
  (101, [(5, [0, 1, 5])]),
  (103, [(4, [0, 3])]),
  (106, [(3, [0, 3, 4])]),
  (110, [(3, [0, 1, 2, 8, 9, 10])]),
  (113, [(4, [0, 1, 5])]),
  (116, [(2, [0, 3])]),
  (123, [(2, [0, 5, 6, 7])]),
  (131, [(2, [0, 1, 4, 5])]),
  (133, [(8, [0, 3, 6, 7, 8]), (13, [0, 3, 6, 7, 8])]),
  (147, [(2, [0, 1, 7, 8])]),
  (150, [(9, [0, 1, 2, 8, 9])]),
  (152, [(3, [0, 1, 2, 8, 9, 10])])]
def TKl : List (Nat × List (Nat × List Nat)) := []
def HLl : List (Nat × List (Nat × List Nat)) := [(49, [(6, [5000000]), (11, [5000000])]),
  (51, [(12, [5000000]), (15, [5000000])])]
def isIn (n : Nat) : Option (List Nat) → Bool
  | some l => l.any (Nat.beq n)
  | none => false
noncomputable instance : Cx := ⟨Tryz.prog, fun f => look f FTl, fun t => look t TBl, fun f => look f SGl, fun f r => (look f STl).bind (look r), fun f r n => isIn n ((look f TKl).bind (look r)), fun f r n => isIn n ((look f HLl).bind (look r)), fun f r => ((look f HLl).bind (look r)).getD []⟩
def AllP {α : Type} (p : Nat → α → Prop) : List (Nat × α) → Prop
  | [] => True
  | x :: l => p x.1 x.2 ∧ AllP p l
theorem look_all {α : Type} {p : Nat → α → Prop} {k : Nat} {y : α} : ∀ {l : List (Nat × α)}, AllP p l → look k l = some y → p k y
  | x :: l, h, e => by
    simp only [look] at e
    cases b : Nat.beq x.1 k with
    | true => rw [b] at e; obtain rfl := Option.some.inj e; have := Nat.eq_of_beq_eq_true b; subst this; exact h.1
    | false => rw [b] at e; exact look_all h.2 e
theorem td3 : TD Tryz.prog (.int .i64) 3 := ⟨Tryz.underlying3, ⟨Tryz.t3, by kernel_rfl, by kernel_rfl, fun _ => ⟨.int .i64 0, by kernel_rfl, by kernel_rfl⟩⟩⟩
theorem td4 : TD Tryz.prog .bool 4 := ⟨Tryz.underlying4, ⟨Tryz.t4, by kernel_rfl, by kernel_rfl, fun _ => ⟨.bool false, by kernel_rfl, by kernel_rfl⟩⟩⟩
theorem td5 : TD Tryz.prog (.int .u8) 5 := ⟨Tryz.underlying5, ⟨Tryz.t5, by kernel_rfl, by kernel_rfl, fun _ => ⟨.int .u8 0, by kernel_rfl, by kernel_rfl⟩⟩⟩
theorem td9 : TD Tryz.prog .str 9 := ⟨Tryz.underlying9, ⟨Tryz.t9, by kernel_rfl, by kernel_rfl, fun _ => ⟨.string ⟨#[]⟩, by kernel_rfl, by kernel_rfl⟩⟩⟩
theorem td23 : TD Tryz.prog Y_laws_Interval 23 := ⟨_, Tryz.underlying23, ⟨Tryz.t23, by kernel_rfl, by kernel_rfl, fun _ => ⟨.agg #[.string ⟨#[]⟩, .string ⟨#[]⟩], by kernel_rfl, by kernel_rfl⟩⟩, ⟨rfl, by decide, td9, ⟨rfl, by decide, td9, trivial⟩⟩, by kernel_rfl, by kernel_rfl⟩
theorem td155 : TD Tryz.prog Y_laws_Pair 155 := ⟨_, Tryz.underlying155, ⟨Tryz.t155, by kernel_rfl, by kernel_rfl, fun _ => ⟨.agg #[.string ⟨#[]⟩, .int .i64 0], by kernel_rfl, by kernel_rfl⟩⟩, ⟨rfl, by decide, td9, ⟨rfl, by decide, td3, trivial⟩⟩, by kernel_rfl, by kernel_rfl⟩
theorem td24 : TD Tryz.prog (.sl Y_laws_Pair) 24 := ⟨155, Tryz.underlying24, ⟨Tryz.t24, by kernel_rfl, by kernel_rfl, fun _ => ⟨.slice none 0 0, by kernel_rfl, by kernel_rfl⟩⟩, td155⟩
theorem td161 : TD Tryz.prog Y_laws_Session 161 := ⟨_, Tryz.underlying161, ⟨Tryz.t161, by kernel_rfl, by kernel_rfl, fun _ => ⟨.agg #[.int .i64 0, .int .i64 0, .int .i64 0], by kernel_rfl, by kernel_rfl⟩⟩, ⟨rfl, by decide, td3, ⟨rfl, by decide, td3, ⟨rfl, by decide, td3, trivial⟩⟩⟩, by kernel_rfl, by kernel_rfl⟩
theorem td25 : TD Tryz.prog (.sl Y_laws_Session) 25 := ⟨161, Tryz.underlying25, ⟨Tryz.t25, by kernel_rfl, by kernel_rfl, fun _ => ⟨.slice none 0 0, by kernel_rfl, by kernel_rfl⟩⟩, td161⟩
theorem td27 : TD Tryz.prog Y_laws_State 27 := ⟨_, Tryz.underlying27, ⟨Tryz.t27, by kernel_rfl, by kernel_rfl, fun _ => ⟨.agg #[.string ⟨#[]⟩, .string ⟨#[]⟩, .slice none 0 0, .slice none 0 0, .bool false, .string ⟨#[]⟩], by kernel_rfl, by kernel_rfl⟩⟩, ⟨rfl, by decide, td23, ⟨rfl, by decide, td24, ⟨rfl, by decide, td25, ⟨rfl, by decide, td4, ⟨rfl, by decide, td9, trivial⟩⟩⟩⟩⟩, by kernel_rfl, by kernel_rfl⟩
theorem td28 : TD Tryz.prog (.sl (.int .i64)) 28 := ⟨3, Tryz.underlying28, ⟨Tryz.t28, by kernel_rfl, by kernel_rfl, fun _ => ⟨.slice none 0 0, by kernel_rfl, by kernel_rfl⟩⟩, td3⟩
theorem td30 : TD Tryz.prog Y_laws_Config 30 := ⟨_, Tryz.underlying30, ⟨Tryz.t30, by kernel_rfl, by kernel_rfl, fun _ => ⟨.agg #[.int .i64 0, .slice none 0 0, .bool false], by kernel_rfl, by kernel_rfl⟩⟩, ⟨rfl, by decide, td3, ⟨rfl, by decide, td28, ⟨rfl, by decide, td4, trivial⟩⟩⟩, by kernel_rfl, by kernel_rfl⟩
theorem td108 : TD Tryz.prog Y_laws_Command 108 := ⟨_, Tryz.underlying108, ⟨Tryz.t108, by kernel_rfl, by kernel_rfl, fun _ => ⟨.agg #[.int .i64 0, .string ⟨#[]⟩, .int .i64 0, .int .i64 0], by kernel_rfl, by kernel_rfl⟩⟩, ⟨rfl, by decide, td3, ⟨rfl, by decide, td9, ⟨rfl, by decide, td3, ⟨rfl, by decide, td3, trivial⟩⟩⟩⟩, by kernel_rfl, by kernel_rfl⟩
theorem td110 : TD Tryz.prog Y_laws_Entry 110 := ⟨_, Tryz.underlying110, ⟨Tryz.t110, by kernel_rfl, by kernel_rfl, fun _ => ⟨.agg #[.int .i64 0, .int .i64 0, .int .i64 0, .string ⟨#[]⟩, .int .i64 0, .int .i64 0], by kernel_rfl, by kernel_rfl⟩⟩, ⟨rfl, by decide, td3, ⟨rfl, by decide, td3, ⟨rfl, by decide, td108, trivial⟩⟩⟩, by kernel_rfl, by kernel_rfl⟩
theorem td100 : TD Tryz.prog (.sl Y_laws_Entry) 100 := ⟨110, Tryz.underlying100, ⟨Tryz.t100, by kernel_rfl, by kernel_rfl, fun _ => ⟨.slice none 0 0, by kernel_rfl, by kernel_rfl⟩⟩, td110⟩
theorem td102 : TD Tryz.prog Y_laws_Replica 102 := ⟨_, Tryz.underlying102, ⟨Tryz.t102, by kernel_rfl, by kernel_rfl, fun _ => ⟨.agg #[.int .i64 0, .slice none 0 0, .bool false, .bool false, .slice none 0 0], by kernel_rfl, by kernel_rfl⟩⟩, ⟨rfl, by decide, td30, ⟨rfl, by decide, td4, ⟨rfl, by decide, td100, trivial⟩⟩⟩, by kernel_rfl, by kernel_rfl⟩
theorem td31 : TD Tryz.prog (.sl Y_laws_Replica) 31 := ⟨102, Tryz.underlying31, ⟨Tryz.t31, by kernel_rfl, by kernel_rfl, fun _ => ⟨.slice none 0 0, by kernel_rfl, by kernel_rfl⟩⟩, td102⟩
theorem td32 : TD Tryz.prog (.sl .bool) 32 := ⟨4, Tryz.underlying32, ⟨Tryz.t32, by kernel_rfl, by kernel_rfl, fun _ => ⟨.slice none 0 0, by kernel_rfl, by kernel_rfl⟩⟩, td4⟩
theorem td105 : TD Tryz.prog Y_laws_Message 105 := ⟨_, Tryz.underlying105, ⟨Tryz.t105, by kernel_rfl, by kernel_rfl, fun _ => ⟨.agg #[.int .i64 0, .int .i64 0, .int .i64 0, .int .i64 0, .slice none 0 0, .bool false, .slice none 0 0], by kernel_rfl, by kernel_rfl⟩⟩, ⟨rfl, by decide, td3, ⟨rfl, by decide, td3, ⟨rfl, by decide, td3, ⟨rfl, by decide, td30, ⟨rfl, by decide, td100, trivial⟩⟩⟩⟩⟩, by kernel_rfl, by kernel_rfl⟩
theorem td33 : TD Tryz.prog (.sl Y_laws_Message) 33 := ⟨105, Tryz.underlying33, ⟨Tryz.t33, by kernel_rfl, by kernel_rfl, fun _ => ⟨.slice none 0 0, by kernel_rfl, by kernel_rfl⟩⟩, td105⟩
theorem td112 : TD Tryz.prog Y_laws_Answer 112 := ⟨_, Tryz.underlying112, ⟨Tryz.t112, by kernel_rfl, by kernel_rfl, fun _ => ⟨.agg #[.int .i64 0, .int .i64 0, .int .i64 0, .string ⟨#[]⟩, .int .i64 0, .int .i64 0, .int .i64 0], by kernel_rfl, by kernel_rfl⟩⟩, ⟨rfl, by decide, td110, ⟨rfl, by decide, td3, trivial⟩⟩, by kernel_rfl, by kernel_rfl⟩
theorem td34 : TD Tryz.prog (.sl Y_laws_Answer) 34 := ⟨112, Tryz.underlying34, ⟨Tryz.t34, by kernel_rfl, by kernel_rfl, fun _ => ⟨.slice none 0 0, by kernel_rfl, by kernel_rfl⟩⟩, td112⟩
theorem td36 : TD Tryz.prog Y_laws_Chain 36 := ⟨_, Tryz.underlying36, ⟨Tryz.t36, by kernel_rfl, by kernel_rfl, fun _ => ⟨.agg #[.string ⟨#[]⟩, .string ⟨#[]⟩, .slice none 0 0, .slice none 0 0, .bool false, .string ⟨#[]⟩, .int .i64 0, .slice none 0 0, .bool false, .slice none 0 0, .slice none 0 0, .slice none 0 0, .slice none 0 0], by kernel_rfl, by kernel_rfl⟩⟩, ⟨rfl, by decide, td27, ⟨rfl, by decide, td30, ⟨rfl, by decide, td31, ⟨rfl, by decide, td32, ⟨rfl, by decide, td33, ⟨rfl, by decide, td34, trivial⟩⟩⟩⟩⟩⟩, by kernel_rfl, by kernel_rfl⟩
theorem td39 : TD Tryz.prog Y_impl_Interval 39 := ⟨_, Tryz.underlying39, ⟨Tryz.t39, by kernel_rfl, by kernel_rfl, fun _ => ⟨.agg #[.string ⟨#[]⟩, .string ⟨#[]⟩], by kernel_rfl, by kernel_rfl⟩⟩, ⟨rfl, by decide, td9, ⟨rfl, by decide, td9, trivial⟩⟩, by kernel_rfl, by kernel_rfl⟩
theorem td115 : TD Tryz.prog Y_impl_Pair 115 := ⟨_, Tryz.underlying115, ⟨Tryz.t115, by kernel_rfl, by kernel_rfl, fun _ => ⟨.agg #[.string ⟨#[]⟩, .int .i64 0], by kernel_rfl, by kernel_rfl⟩⟩, ⟨rfl, by decide, td9, ⟨rfl, by decide, td3, trivial⟩⟩, by kernel_rfl, by kernel_rfl⟩
theorem td40 : TD Tryz.prog (.sl Y_impl_Pair) 40 := ⟨115, Tryz.underlying40, ⟨Tryz.t40, by kernel_rfl, by kernel_rfl, fun _ => ⟨.slice none 0 0, by kernel_rfl, by kernel_rfl⟩⟩, td115⟩
theorem td151 : TD Tryz.prog Y_impl_Session 151 := ⟨_, Tryz.underlying151, ⟨Tryz.t151, by kernel_rfl, by kernel_rfl, fun _ => ⟨.agg #[.int .i64 0, .int .i64 0, .int .i64 0], by kernel_rfl, by kernel_rfl⟩⟩, ⟨rfl, by decide, td3, ⟨rfl, by decide, td3, ⟨rfl, by decide, td3, trivial⟩⟩⟩, by kernel_rfl, by kernel_rfl⟩
theorem td41 : TD Tryz.prog (.sl Y_impl_Session) 41 := ⟨151, Tryz.underlying41, ⟨Tryz.t41, by kernel_rfl, by kernel_rfl, fun _ => ⟨.slice none 0 0, by kernel_rfl, by kernel_rfl⟩⟩, td151⟩
theorem td43 : TD Tryz.prog Y_impl_State 43 := ⟨_, Tryz.underlying43, ⟨Tryz.t43, by kernel_rfl, by kernel_rfl, fun _ => ⟨.agg #[.string ⟨#[]⟩, .string ⟨#[]⟩, .slice none 0 0, .slice none 0 0, .bool false, .string ⟨#[]⟩], by kernel_rfl, by kernel_rfl⟩⟩, ⟨rfl, by decide, td39, ⟨rfl, by decide, td40, ⟨rfl, by decide, td41, ⟨rfl, by decide, td4, ⟨rfl, by decide, td9, trivial⟩⟩⟩⟩⟩, by kernel_rfl, by kernel_rfl⟩
theorem td44 : TD Tryz.prog Y_impl_Config 44 := ⟨_, Tryz.underlying44, ⟨Tryz.t44, by kernel_rfl, by kernel_rfl, fun _ => ⟨.agg #[.int .i64 0, .slice none 0 0, .bool false], by kernel_rfl, by kernel_rfl⟩⟩, ⟨rfl, by decide, td3, ⟨rfl, by decide, td28, ⟨rfl, by decide, td4, trivial⟩⟩⟩, by kernel_rfl, by kernel_rfl⟩
theorem td126 : TD Tryz.prog Y_impl_Command 126 := ⟨_, Tryz.underlying126, ⟨Tryz.t126, by kernel_rfl, by kernel_rfl, fun _ => ⟨.agg #[.int .i64 0, .string ⟨#[]⟩, .int .i64 0, .int .i64 0], by kernel_rfl, by kernel_rfl⟩⟩, ⟨rfl, by decide, td3, ⟨rfl, by decide, td9, ⟨rfl, by decide, td3, ⟨rfl, by decide, td3, trivial⟩⟩⟩⟩, by kernel_rfl, by kernel_rfl⟩
theorem td128 : TD Tryz.prog Y_impl_Entry 128 := ⟨_, Tryz.underlying128, ⟨Tryz.t128, by kernel_rfl, by kernel_rfl, fun _ => ⟨.agg #[.int .i64 0, .int .i64 0, .int .i64 0, .string ⟨#[]⟩, .int .i64 0, .int .i64 0], by kernel_rfl, by kernel_rfl⟩⟩, ⟨rfl, by decide, td3, ⟨rfl, by decide, td3, ⟨rfl, by decide, td126, trivial⟩⟩⟩, by kernel_rfl, by kernel_rfl⟩
theorem td81 : TD Tryz.prog (.sl Y_impl_Entry) 81 := ⟨128, Tryz.underlying81, ⟨Tryz.t81, by kernel_rfl, by kernel_rfl, fun _ => ⟨.slice none 0 0, by kernel_rfl, by kernel_rfl⟩⟩, td128⟩
theorem td121 : TD Tryz.prog Y_impl_Replica 121 := ⟨_, Tryz.underlying121, ⟨Tryz.t121, by kernel_rfl, by kernel_rfl, fun _ => ⟨.agg #[.int .i64 0, .slice none 0 0, .bool false, .bool false, .slice none 0 0], by kernel_rfl, by kernel_rfl⟩⟩, ⟨rfl, by decide, td44, ⟨rfl, by decide, td4, ⟨rfl, by decide, td81, trivial⟩⟩⟩, by kernel_rfl, by kernel_rfl⟩
theorem td45 : TD Tryz.prog (.sl Y_impl_Replica) 45 := ⟨121, Tryz.underlying45, ⟨Tryz.t45, by kernel_rfl, by kernel_rfl, fun _ => ⟨.slice none 0 0, by kernel_rfl, by kernel_rfl⟩⟩, td121⟩
theorem td124 : TD Tryz.prog Y_impl_Message 124 := ⟨_, Tryz.underlying124, ⟨Tryz.t124, by kernel_rfl, by kernel_rfl, fun _ => ⟨.agg #[.int .i64 0, .int .i64 0, .int .i64 0, .int .i64 0, .slice none 0 0, .bool false, .slice none 0 0], by kernel_rfl, by kernel_rfl⟩⟩, ⟨rfl, by decide, td3, ⟨rfl, by decide, td3, ⟨rfl, by decide, td3, ⟨rfl, by decide, td44, ⟨rfl, by decide, td81, trivial⟩⟩⟩⟩⟩, by kernel_rfl, by kernel_rfl⟩
theorem td46 : TD Tryz.prog (.sl Y_impl_Message) 46 := ⟨124, Tryz.underlying46, ⟨Tryz.t46, by kernel_rfl, by kernel_rfl, fun _ => ⟨.slice none 0 0, by kernel_rfl, by kernel_rfl⟩⟩, td124⟩
theorem td130 : TD Tryz.prog Y_impl_Answer 130 := ⟨_, Tryz.underlying130, ⟨Tryz.t130, by kernel_rfl, by kernel_rfl, fun _ => ⟨.agg #[.int .i64 0, .int .i64 0, .int .i64 0, .string ⟨#[]⟩, .int .i64 0, .int .i64 0, .int .i64 0], by kernel_rfl, by kernel_rfl⟩⟩, ⟨rfl, by decide, td128, ⟨rfl, by decide, td3, trivial⟩⟩, by kernel_rfl, by kernel_rfl⟩
theorem td47 : TD Tryz.prog (.sl Y_impl_Answer) 47 := ⟨130, Tryz.underlying47, ⟨Tryz.t47, by kernel_rfl, by kernel_rfl, fun _ => ⟨.slice none 0 0, by kernel_rfl, by kernel_rfl⟩⟩, td130⟩
theorem td49 : TD Tryz.prog Y_impl_Chain 49 := ⟨_, Tryz.underlying49, ⟨Tryz.t49, by kernel_rfl, by kernel_rfl, fun _ => ⟨.agg #[.string ⟨#[]⟩, .string ⟨#[]⟩, .slice none 0 0, .slice none 0 0, .bool false, .string ⟨#[]⟩, .int .i64 0, .slice none 0 0, .bool false, .slice none 0 0, .slice none 0 0, .slice none 0 0, .slice none 0 0], by kernel_rfl, by kernel_rfl⟩⟩, ⟨rfl, by decide, td43, ⟨rfl, by decide, td44, ⟨rfl, by decide, td45, ⟨rfl, by decide, td32, ⟨rfl, by decide, td46, ⟨rfl, by decide, td47, trivial⟩⟩⟩⟩⟩⟩, by kernel_rfl, by kernel_rfl⟩
theorem td187 : TD Tryz.prog (.sl (.int .u8)) 187 := ⟨5, Tryz.underlying187, ⟨Tryz.t187, by kernel_rfl, by kernel_rfl, fun _ => ⟨.slice none 0 0, by kernel_rfl, by kernel_rfl⟩⟩, td5⟩
theorem td190 : TD Tryz.prog (.int .u64) 190 := ⟨Tryz.underlying190, ⟨Tryz.t190, by kernel_rfl, by kernel_rfl, fun _ => ⟨.int .u64 0, by kernel_rfl, by kernel_rfl⟩⟩⟩
theorem tb_all : AllP (fun t (ti : TI) => TD Tryz.prog ti.ty t ∧ ∀ a, ti.ty = .sl a → ∃ e i, Tryz.prog.underlying t = some (.slice e) ∧ Tryz.prog.info? e = some i ∧ i.bytes = ti.eb) TBl := ⟨⟨td3, fun _ h => by cases h⟩, ⟨⟨td4, fun _ h => by cases h⟩, ⟨⟨td5, fun _ h => by cases h⟩, ⟨⟨td9, fun _ h => by cases h⟩, ⟨⟨td23, fun _ h => by cases h⟩, ⟨⟨td24, fun _ h => ⟨155, Tryz.t155, Tryz.underlying24, by kernel_rfl, by kernel_rfl⟩⟩, ⟨⟨td25, fun _ h => ⟨161, Tryz.t161, Tryz.underlying25, by kernel_rfl, by kernel_rfl⟩⟩, ⟨⟨td27, fun _ h => by cases h⟩, ⟨⟨td28, fun _ h => ⟨3, Tryz.t3, Tryz.underlying28, by kernel_rfl, by kernel_rfl⟩⟩, ⟨⟨td30, fun _ h => by cases h⟩, ⟨⟨td31, fun _ h => ⟨102, Tryz.t102, Tryz.underlying31, by kernel_rfl, by kernel_rfl⟩⟩, ⟨⟨td32, fun _ h => ⟨4, Tryz.t4, Tryz.underlying32, by kernel_rfl, by kernel_rfl⟩⟩, ⟨⟨td33, fun _ h => ⟨105, Tryz.t105, Tryz.underlying33, by kernel_rfl, by kernel_rfl⟩⟩, ⟨⟨td34, fun _ h => ⟨112, Tryz.t112, Tryz.underlying34, by kernel_rfl, by kernel_rfl⟩⟩, ⟨⟨td36, fun _ h => by cases h⟩, ⟨⟨td39, fun _ h => by cases h⟩, ⟨⟨td40, fun _ h => ⟨115, Tryz.t115, Tryz.underlying40, by kernel_rfl, by kernel_rfl⟩⟩, ⟨⟨td41, fun _ h => ⟨151, Tryz.t151, Tryz.underlying41, by kernel_rfl, by kernel_rfl⟩⟩, ⟨⟨td43, fun _ h => by cases h⟩, ⟨⟨td44, fun _ h => by cases h⟩, ⟨⟨td45, fun _ h => ⟨121, Tryz.t121, Tryz.underlying45, by kernel_rfl, by kernel_rfl⟩⟩, ⟨⟨td46, fun _ h => ⟨124, Tryz.t124, Tryz.underlying46, by kernel_rfl, by kernel_rfl⟩⟩, ⟨⟨td47, fun _ h => ⟨130, Tryz.t130, Tryz.underlying47, by kernel_rfl, by kernel_rfl⟩⟩, ⟨⟨td49, fun _ h => by cases h⟩, ⟨⟨td81, fun _ h => ⟨128, Tryz.t128, Tryz.underlying81, by kernel_rfl, by kernel_rfl⟩⟩, ⟨⟨td100, fun _ h => ⟨110, Tryz.t110, Tryz.underlying100, by kernel_rfl, by kernel_rfl⟩⟩, ⟨⟨td102, fun _ h => by cases h⟩, ⟨⟨td105, fun _ h => by cases h⟩, ⟨⟨td108, fun _ h => by cases h⟩, ⟨⟨td110, fun _ h => by cases h⟩, ⟨⟨td112, fun _ h => by cases h⟩, ⟨⟨td115, fun _ h => by cases h⟩, ⟨⟨td121, fun _ h => by cases h⟩, ⟨⟨td124, fun _ h => by cases h⟩, ⟨⟨td126, fun _ h => by cases h⟩, ⟨⟨td128, fun _ h => by cases h⟩, ⟨⟨td130, fun _ h => by cases h⟩, ⟨⟨td151, fun _ h => by cases h⟩, ⟨⟨td155, fun _ h => by cases h⟩, ⟨⟨td161, fun _ h => by cases h⟩, ⟨⟨td187, fun _ h => ⟨5, Tryz.t5, Tryz.underlying187, by kernel_rfl, by kernel_rfl⟩⟩, ⟨⟨td190, fun _ h => by cases h⟩, trivial⟩⟩⟩⟩⟩⟩⟩⟩⟩⟩⟩⟩⟩⟩⟩⟩⟩⟩⟩⟩⟩⟩⟩⟩⟩⟩⟩⟩⟩⟩⟩⟩⟩⟩⟩⟩⟩⟩⟩⟩⟩⟩
theorem ft_all : AllP (fun f (fn : Func) => Tryz.prog.funcs[f]? = some fn ∧ (fn.name == "runtime.NumGoroutine") = false) FTl := ⟨⟨Tryz.func5, by kernel_rfl⟩, ⟨⟨Tryz.func6, by kernel_rfl⟩, ⟨⟨Tryz.func8, by kernel_rfl⟩, ⟨⟨Tryz.func10, by kernel_rfl⟩, ⟨⟨Tryz.func13, by kernel_rfl⟩, ⟨⟨Tryz.func14, by kernel_rfl⟩, ⟨⟨Tryz.func15, by kernel_rfl⟩, ⟨⟨Tryz.func16, by kernel_rfl⟩, ⟨⟨Tryz.func17, by kernel_rfl⟩, ⟨⟨Tryz.func18, by kernel_rfl⟩, ⟨⟨Tryz.func19, by kernel_rfl⟩, ⟨⟨Tryz.func20, by kernel_rfl⟩, ⟨⟨Tryz.func21, by kernel_rfl⟩, ⟨⟨Tryz.func22, by kernel_rfl⟩, ⟨⟨Tryz.func23, by kernel_rfl⟩, ⟨⟨Tryz.func24, by kernel_rfl⟩, ⟨⟨Tryz.func25, by kernel_rfl⟩, ⟨⟨Tryz.func26, by kernel_rfl⟩, ⟨⟨Tryz.func27, by kernel_rfl⟩, ⟨⟨Tryz.func28, by kernel_rfl⟩, ⟨⟨Tryz.func29, by kernel_rfl⟩, ⟨⟨Tryz.func30, by kernel_rfl⟩, ⟨⟨Tryz.func31, by kernel_rfl⟩, ⟨⟨Tryz.func32, by kernel_rfl⟩, ⟨⟨Tryz.func33, by kernel_rfl⟩, ⟨⟨Tryz.func34, by kernel_rfl⟩, ⟨⟨Tryz.func35, by kernel_rfl⟩, ⟨⟨Tryz.func36, by kernel_rfl⟩, ⟨⟨Tryz.func37, by kernel_rfl⟩, ⟨⟨Tryz.func38, by kernel_rfl⟩, ⟨⟨Tryz.func39, by kernel_rfl⟩, ⟨⟨Tryz.func40, by kernel_rfl⟩, ⟨⟨Tryz.func41, by kernel_rfl⟩, ⟨⟨Tryz.func42, by kernel_rfl⟩, ⟨⟨Tryz.func43, by kernel_rfl⟩, ⟨⟨Tryz.func44, by kernel_rfl⟩, ⟨⟨Tryz.func45, by kernel_rfl⟩, ⟨⟨Tryz.func46, by kernel_rfl⟩, ⟨⟨Tryz.func47, by kernel_rfl⟩, ⟨⟨Tryz.func48, by kernel_rfl⟩, ⟨⟨Tryz.func49, by kernel_rfl⟩, ⟨⟨Tryz.func50, by kernel_rfl⟩, ⟨⟨Tryz.func51, by kernel_rfl⟩, ⟨⟨Tryz.func52, by kernel_rfl⟩, ⟨⟨Tryz.func53, by kernel_rfl⟩, ⟨⟨Tryz.func54, by kernel_rfl⟩, ⟨⟨Tryz.func55, by kernel_rfl⟩, ⟨⟨Tryz.func56, by kernel_rfl⟩, ⟨⟨Tryz.func57, by kernel_rfl⟩, ⟨⟨Tryz.func58, by kernel_rfl⟩, ⟨⟨Tryz.func59, by kernel_rfl⟩, ⟨⟨Tryz.func60, by kernel_rfl⟩, ⟨⟨Tryz.func61, by kernel_rfl⟩, ⟨⟨Tryz.func62, by kernel_rfl⟩, ⟨⟨Tryz.func63, by kernel_rfl⟩, ⟨⟨Tryz.func64, by kernel_rfl⟩, ⟨⟨Tryz.func65, by kernel_rfl⟩, ⟨⟨Tryz.func66, by kernel_rfl⟩, ⟨⟨Tryz.func67, by kernel_rfl⟩, ⟨⟨Tryz.func68, by kernel_rfl⟩, ⟨⟨Tryz.func69, by kernel_rfl⟩, ⟨⟨Tryz.func70, by kernel_rfl⟩, ⟨⟨Tryz.func71, by kernel_rfl⟩, ⟨⟨Tryz.func72, by kernel_rfl⟩, ⟨⟨Tryz.func73, by kernel_rfl⟩, ⟨⟨Tryz.func74, by kernel_rfl⟩, ⟨⟨Tryz.func75, by kernel_rfl⟩, ⟨⟨Tryz.func76, by kernel_rfl⟩, ⟨⟨Tryz.func77, by kernel_rfl⟩, ⟨⟨Tryz.func78, by kernel_rfl⟩, ⟨⟨Tryz.func79, by kernel_rfl⟩, ⟨⟨Tryz.func80, by kernel_rfl⟩, ⟨⟨Tryz.func81, by kernel_rfl⟩, ⟨⟨Tryz.func82, by kernel_rfl⟩, ⟨⟨Tryz.func83, by kernel_rfl⟩, ⟨⟨Tryz.func84, by kernel_rfl⟩, ⟨⟨Tryz.func85, by kernel_rfl⟩, ⟨⟨Tryz.func86, by kernel_rfl⟩, ⟨⟨Tryz.func87, by kernel_rfl⟩, ⟨⟨Tryz.func88, by kernel_rfl⟩, ⟨⟨Tryz.func89, by kernel_rfl⟩, ⟨⟨Tryz.func90, by kernel_rfl⟩, ⟨⟨Tryz.func91, by kernel_rfl⟩, ⟨⟨Tryz.func92, by kernel_rfl⟩, ⟨⟨Tryz.func93, by kernel_rfl⟩, ⟨⟨Tryz.func94, by kernel_rfl⟩, ⟨⟨Tryz.func95, by kernel_rfl⟩, ⟨⟨Tryz.func96, by kernel_rfl⟩, ⟨⟨Tryz.func97, by kernel_rfl⟩, ⟨⟨Tryz.func98, by kernel_rfl⟩, ⟨⟨Tryz.func99, by kernel_rfl⟩, ⟨⟨Tryz.func100, by kernel_rfl⟩, ⟨⟨Tryz.func101, by kernel_rfl⟩, ⟨⟨Tryz.func102, by kernel_rfl⟩, ⟨⟨Tryz.func103, by kernel_rfl⟩, ⟨⟨Tryz.func104, by kernel_rfl⟩, ⟨⟨Tryz.func105, by kernel_rfl⟩, ⟨⟨Tryz.func106, by kernel_rfl⟩, ⟨⟨Tryz.func107, by kernel_rfl⟩, ⟨⟨Tryz.func108, by kernel_rfl⟩, ⟨⟨Tryz.func109, by kernel_rfl⟩, ⟨⟨Tryz.func110, by kernel_rfl⟩, ⟨⟨Tryz.func111, by kernel_rfl⟩, ⟨⟨Tryz.func112, by kernel_rfl⟩, ⟨⟨Tryz.func113, by kernel_rfl⟩, ⟨⟨Tryz.func114, by kernel_rfl⟩, ⟨⟨Tryz.func115, by kernel_rfl⟩, ⟨⟨Tryz.func116, by kernel_rfl⟩, ⟨⟨Tryz.func117, by kernel_rfl⟩, ⟨⟨Tryz.func118, by kernel_rfl⟩, ⟨⟨Tryz.func119, by kernel_rfl⟩, ⟨⟨Tryz.func120, by kernel_rfl⟩, ⟨⟨Tryz.func121, by kernel_rfl⟩, ⟨⟨Tryz.func122, by kernel_rfl⟩, ⟨⟨Tryz.func123, by kernel_rfl⟩, ⟨⟨Tryz.func124, by kernel_rfl⟩, ⟨⟨Tryz.func125, by kernel_rfl⟩, ⟨⟨Tryz.func126, by kernel_rfl⟩, ⟨⟨Tryz.func127, by kernel_rfl⟩, ⟨⟨Tryz.func128, by kernel_rfl⟩, ⟨⟨Tryz.func129, by kernel_rfl⟩, ⟨⟨Tryz.func130, by kernel_rfl⟩, ⟨⟨Tryz.func131, by kernel_rfl⟩, ⟨⟨Tryz.func132, by kernel_rfl⟩, ⟨⟨Tryz.func133, by kernel_rfl⟩, ⟨⟨Tryz.func134, by kernel_rfl⟩, ⟨⟨Tryz.func135, by kernel_rfl⟩, ⟨⟨Tryz.func136, by kernel_rfl⟩, ⟨⟨Tryz.func137, by kernel_rfl⟩, ⟨⟨Tryz.func138, by kernel_rfl⟩, ⟨⟨Tryz.func139, by kernel_rfl⟩, ⟨⟨Tryz.func140, by kernel_rfl⟩, ⟨⟨Tryz.func141, by kernel_rfl⟩, ⟨⟨Tryz.func142, by kernel_rfl⟩, ⟨⟨Tryz.func143, by kernel_rfl⟩, ⟨⟨Tryz.func144, by kernel_rfl⟩, ⟨⟨Tryz.func145, by kernel_rfl⟩, ⟨⟨Tryz.func146, by kernel_rfl⟩, ⟨⟨Tryz.func147, by kernel_rfl⟩, ⟨⟨Tryz.func148, by kernel_rfl⟩, ⟨⟨Tryz.func149, by kernel_rfl⟩, ⟨⟨Tryz.func150, by kernel_rfl⟩, ⟨⟨Tryz.func151, by kernel_rfl⟩, ⟨⟨Tryz.func152, by kernel_rfl⟩, ⟨⟨Tryz.func153, by kernel_rfl⟩, ⟨⟨Tryz.func154, by kernel_rfl⟩, ⟨⟨Tryz.func155, by kernel_rfl⟩, ⟨⟨Tryz.func156, by kernel_rfl⟩, ⟨⟨Tryz.func157, by kernel_rfl⟩, ⟨⟨Tryz.func158, by kernel_rfl⟩, ⟨⟨Tryz.func159, by kernel_rfl⟩, trivial⟩⟩⟩⟩⟩⟩⟩⟩⟩⟩⟩⟩⟩⟩⟩⟩⟩⟩⟩⟩⟩⟩⟩⟩⟩⟩⟩⟩⟩⟩⟩⟩⟩⟩⟩⟩⟩⟩⟩⟩⟩⟩⟩⟩⟩⟩⟩⟩⟩⟩⟩⟩⟩⟩⟩⟩⟩⟩⟩⟩⟩⟩⟩⟩⟩⟩⟩⟩⟩⟩⟩⟩⟩⟩⟩⟩⟩⟩⟩⟩⟩⟩⟩⟩⟩⟩⟩⟩⟩⟩⟩⟩⟩⟩⟩⟩⟩⟩⟩⟩⟩⟩⟩⟩⟩⟩⟩⟩⟩⟩⟩⟩⟩⟩⟩⟩⟩⟩⟩⟩⟩⟩⟩⟩⟩⟩⟩⟩⟩⟩⟩⟩⟩⟩⟩⟩⟩⟩⟩⟩⟩⟩⟩⟩⟩⟩⟩⟩⟩⟩⟩
theorem zz : ∀ i, tto i (tz i) = (TR i).dflt
  | 0 => rfl
  | 1 => rfl
  | 2 => rfl
  | 3 => rfl
  | 4 => rfl
  | 5 => rfl
  | 6 => rfl
  | 7 => rfl
  | 8 => rfl
  | 9 => rfl
  | 10 => rfl
  | 11 => rfl
  | 12 => rfl
  | 13 => rfl
  | 14 => rfl
  | 15 => rfl
  | 16 => rfl
  | 17 => rfl
  | 18 => rfl
  | 19 => rfl
  | 20 => rfl
  | 21 => rfl
  | 22 => rfl
  | 23 => rfl
  | 24 => rfl
  | 25 => rfl
  | 26 => rfl
  | 27 => rfl
  | 28 => rfl
  | 29 => rfl
  | 30 => rfl
  | 31 => rfl
  | 32 => rfl
  | 33 => rfl
  | 34 => rfl
  | 35 => rfl
  | 36 => rfl
  | _ + 37 => rfl
theorem good : Good := ⟨fun _ _ h => look_all ft_all h, fun _ _ h => look_all tb_all h, zz, by kernel_rfl⟩
def lit (l : List UInt8) : ByteArray := ⟨l.toArray⟩
def es : ByteArray := ⟨#[]⟩
/-- What is still to be done from a region on. -/
def conts : Code → List Item → Nat → Option (List Item)
  | .seq a b, k, r => match conts a (.code b :: k) r with
    | some x => some x
    | none => conts b k r
  | .cond _ x y, k, r => match conts x k r with
    | some x => some x
    | none => conts y k r
  | .block l b, k, r => conts b (.inBlock l :: k) r
  | .loop b, k, r => conts b (.inLoop b :: k) r
  | .region i ops draw, k, r => bif Nat.beq i r then some (.code (.region i ops draw) :: k) else none
  | _, _, _ => none
noncomputable def cont (f r : Nat) : List Item := match look f FTl with
  | some fn => match fn.body with
    | some c => (conts c [] r).getD []
    | none => []
  | none => []
end Go.Proofs.YtpdmjnejnplhnaaGreat.Ev
