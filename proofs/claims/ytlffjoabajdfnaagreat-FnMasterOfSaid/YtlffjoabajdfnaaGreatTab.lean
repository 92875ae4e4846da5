/- The program's types and functions as the evaluator's tables. No condition. -/
import Derived.Test.YtlffjoabajdfnaaGreatEngC
import Derived.Test.YtlffjoabajdfnaaGreatProg
set_option maxRecDepth 100000
namespace Go.Proofs.YtlffjoabajdfnaaGreat.Ev
open Go.Proofs.YtlffjoabajdfnaaGreat.Eng
/-- impl.Interval -/
structure impl_Interval where
  Low : ByteArray
  High : ByteArray
/-- impl.Route -/
structure impl_Route where
  Number : Int
  Span : impl_Interval
/-- impl.Plan -/
structure impl_Plan where
  Kind : Int
  First : Int
  Second : Int
  Key : ByteArray
  From : Int
  To : Int
  Step : Int
/-- impl.Master -/
structure impl_Master where
  Routes : (List impl_Route)
  Shards : Int
  Work : impl_Plan
  Turn : Int
/-- impl.Pair -/
structure impl_Pair where
  Key : ByteArray
  Value : Int
/-- impl.Session -/
structure impl_Session where
  Client : Int
  Seq : Int
  Reply : Int
/-- impl.State -/
structure impl_State where
  Span : impl_Interval
  Pairs : (List impl_Pair)
  Known : (List impl_Session)
  Sealed : Bool
  Cut : ByteArray
/-- impl.Config -/
structure impl_Config where
  Epoch : Int
  Members : (List Int)
  Fresh : Bool
/-- impl.Command -/
structure impl_Command where
  Kind : Int
  Key : ByteArray
  Value : Int
  Old : Int
/-- impl.Entry -/
structure impl_Entry where
  Client : Int
  Seq : Int
  Cmd : impl_Command
/-- impl.Replica -/
structure impl_Replica where
  Conf : impl_Config
  Ready : Bool
  Log : (List impl_Entry)
/-- impl.Message -/
structure impl_Message where
  Kind : Int
  To : Int
  Epoch : Int
  Conf : impl_Config
  Log : (List impl_Entry)
/-- impl.Answer -/
structure impl_Answer where
  Asked : impl_Entry
  Reply : Int
/-- impl.Chain -/
structure impl_Chain where
  Base : impl_State
  Conf : impl_Config
  Nodes : (List impl_Replica)
  Up : (List Bool)
  Bag : (List impl_Message)
  Answers : (List impl_Answer)
/-- impl.Shard -/
structure impl_Shard where
  Live : Bool
  Group : impl_Chain
/-- impl.Caller -/
structure impl_Caller where
  Cache : (List impl_Route)
  Seq : Int
  Busy : Bool
  Wish : impl_Command
  Called : Int
/-- impl.Result -/
structure impl_Result where
  Client : Int
  Seq : Int
  Wish : impl_Command
  Reply : Int
  Called : Int
  Returned : Int
/-- impl.Cluster -/
structure impl_Cluster where
  Shards : (List impl_Shard)
  Clients : (List impl_Caller)
  Results : (List impl_Result)
  Work : impl_Plan
  Turn : Int
  Clock : Int
/-- impl.Event -/
structure impl_Event where
  Kind : Int
  Node : Int
  Place : Int
  Sent : impl_Entry
/-- impl.Deed -/
structure impl_Deed where
  Kind : Int
  Who : Int
  Node : Int
  Number : Int
  Wish : impl_Command
  Inner : impl_Event
  Work : impl_Plan
/-- spec.l20Rd -/
structure spec_l20Rd where
  b : (List Int)
  p : Int
abbrev R_impl_Interval : Ty := (.pair .str (.pair .str .unit))
abbrev Y_impl_Interval : Ty := .st 10 R_impl_Interval
abbrev R_impl_Route : Ty := (.pair (.int .i64) (.pair Y_impl_Interval .unit))
abbrev Y_impl_Route : Ty := .st 9 R_impl_Route
abbrev R_impl_Plan : Ty := (.pair (.int .i64) (.pair (.int .i64) (.pair (.int .i64) (.pair .str (.pair (.int .i64) (.pair (.int .i64) (.pair (.int .i64) .unit)))))))
abbrev Y_impl_Plan : Ty := .st 12 R_impl_Plan
abbrev R_impl_Master : Ty := (.pair (.sl Y_impl_Route) (.pair (.int .i64) (.pair Y_impl_Plan (.pair (.int .i64) .unit))))
abbrev Y_impl_Master : Ty := .st 14 R_impl_Master
abbrev R_impl_Pair : Ty := (.pair .str (.pair (.int .i64) .unit))
abbrev Y_impl_Pair : Ty := .st 27 R_impl_Pair
abbrev R_impl_Session : Ty := (.pair (.int .i64) (.pair (.int .i64) (.pair (.int .i64) .unit)))
abbrev Y_impl_Session : Ty := .st 26 R_impl_Session
abbrev R_impl_State : Ty := (.pair Y_impl_Interval (.pair (.sl Y_impl_Pair) (.pair (.sl Y_impl_Session) (.pair .bool (.pair .str .unit)))))
abbrev Y_impl_State : Ty := .st 25 R_impl_State
abbrev R_impl_Config : Ty := (.pair (.int .i64) (.pair (.sl (.int .i64)) (.pair .bool .unit)))
abbrev Y_impl_Config : Ty := .st 23 R_impl_Config
abbrev R_impl_Command : Ty := (.pair (.int .i64) (.pair .str (.pair (.int .i64) (.pair (.int .i64) .unit))))
abbrev Y_impl_Command : Ty := .st 21 R_impl_Command
abbrev R_impl_Entry : Ty := (.pair (.int .i64) (.pair (.int .i64) (.pair Y_impl_Command .unit)))
abbrev Y_impl_Entry : Ty := .st 20 R_impl_Entry
abbrev R_impl_Replica : Ty := (.pair Y_impl_Config (.pair .bool (.pair (.sl Y_impl_Entry) .unit)))
abbrev Y_impl_Replica : Ty := .st 24 R_impl_Replica
abbrev R_impl_Message : Ty := (.pair (.int .i64) (.pair (.int .i64) (.pair (.int .i64) (.pair Y_impl_Config (.pair (.sl Y_impl_Entry) .unit)))))
abbrev Y_impl_Message : Ty := .st 22 R_impl_Message
abbrev R_impl_Answer : Ty := (.pair Y_impl_Entry (.pair (.int .i64) .unit))
abbrev Y_impl_Answer : Ty := .st 19 R_impl_Answer
abbrev R_impl_Chain : Ty := (.pair Y_impl_State (.pair Y_impl_Config (.pair (.sl Y_impl_Replica) (.pair (.sl .bool) (.pair (.sl Y_impl_Message) (.pair (.sl Y_impl_Answer) .unit))))))
abbrev Y_impl_Chain : Ty := .st 18 R_impl_Chain
abbrev R_impl_Shard : Ty := (.pair .bool (.pair Y_impl_Chain .unit))
abbrev Y_impl_Shard : Ty := .st 17 R_impl_Shard
abbrev R_impl_Caller : Ty := (.pair (.sl Y_impl_Route) (.pair (.int .i64) (.pair .bool (.pair Y_impl_Command (.pair (.int .i64) .unit)))))
abbrev Y_impl_Caller : Ty := .st 28 R_impl_Caller
abbrev R_impl_Result : Ty := (.pair (.int .i64) (.pair (.int .i64) (.pair Y_impl_Command (.pair (.int .i64) (.pair (.int .i64) (.pair (.int .i64) .unit))))))
abbrev Y_impl_Result : Ty := .st 29 R_impl_Result
abbrev R_impl_Cluster : Ty := (.pair (.sl Y_impl_Shard) (.pair (.sl Y_impl_Caller) (.pair (.sl Y_impl_Result) (.pair Y_impl_Plan (.pair (.int .i64) (.pair (.int .i64) .unit))))))
abbrev Y_impl_Cluster : Ty := .st 31 R_impl_Cluster
abbrev R_impl_Event : Ty := (.pair (.int .i64) (.pair (.int .i64) (.pair (.int .i64) (.pair Y_impl_Entry .unit))))
abbrev Y_impl_Event : Ty := .st 33 R_impl_Event
abbrev R_impl_Deed : Ty := (.pair (.int .i64) (.pair (.int .i64) (.pair (.int .i64) (.pair (.int .i64) (.pair Y_impl_Command (.pair Y_impl_Event (.pair Y_impl_Plan .unit)))))))
abbrev Y_impl_Deed : Ty := .st 32 R_impl_Deed
abbrev R_spec_l20Rd : Ty := (.pair (.sl (.int .u8)) (.pair (.int .i64) .unit))
abbrev Y_spec_l20Rd : Ty := .st 38 R_spec_l20Rd
def TT : Nat → Type
  | 0 => Unit
  | 1 => Unit
  | 2 => Unit
  | 3 => Unit
  | 4 => Unit
  | 5 => Unit
  | 6 => Unit
  | 7 => Unit
  | 8 => Unit
  | 9 => impl_Route
  | 10 => impl_Interval
  | 11 => Unit
  | 12 => impl_Plan
  | 13 => Unit
  | 14 => impl_Master
  | 15 => Unit
  | 16 => Unit
  | 17 => impl_Shard
  | 18 => impl_Chain
  | 19 => impl_Answer
  | 20 => impl_Entry
  | 21 => impl_Command
  | 22 => impl_Message
  | 23 => impl_Config
  | 24 => impl_Replica
  | 25 => impl_State
  | 26 => impl_Session
  | 27 => impl_Pair
  | 28 => impl_Caller
  | 29 => impl_Result
  | 30 => Unit
  | 31 => impl_Cluster
  | 32 => impl_Deed
  | 33 => impl_Event
  | 34 => Unit
  | 35 => Unit
  | 36 => Unit
  | 37 => Unit
  | 38 => spec_l20Rd
  | _ + 39 => Unit
def TR : Nat → Ty
  | 0 => .unit
  | 1 => .unit
  | 2 => .unit
  | 3 => .unit
  | 4 => .unit
  | 5 => .unit
  | 6 => .unit
  | 7 => .unit
  | 8 => .unit
  | 9 => R_impl_Route
  | 10 => R_impl_Interval
  | 11 => .unit
  | 12 => R_impl_Plan
  | 13 => .unit
  | 14 => R_impl_Master
  | 15 => .unit
  | 16 => .unit
  | 17 => R_impl_Shard
  | 18 => R_impl_Chain
  | 19 => R_impl_Answer
  | 20 => R_impl_Entry
  | 21 => R_impl_Command
  | 22 => R_impl_Message
  | 23 => R_impl_Config
  | 24 => R_impl_Replica
  | 25 => R_impl_State
  | 26 => R_impl_Session
  | 27 => R_impl_Pair
  | 28 => R_impl_Caller
  | 29 => R_impl_Result
  | 30 => .unit
  | 31 => R_impl_Cluster
  | 32 => R_impl_Deed
  | 33 => R_impl_Event
  | 34 => .unit
  | 35 => .unit
  | 36 => .unit
  | 37 => .unit
  | 38 => R_spec_l20Rd
  | _ + 39 => .unit
def tto : ∀ i, TT i → (TR i).den TT
  | 0 => fun _ => ()
  | 1 => fun _ => ()
  | 2 => fun _ => ()
  | 3 => fun _ => ()
  | 4 => fun _ => ()
  | 5 => fun _ => ()
  | 6 => fun _ => ()
  | 7 => fun _ => ()
  | 8 => fun _ => ()
  | 9 => fun x => (x.Number, x.Span, ())
  | 10 => fun x => (x.Low, x.High, ())
  | 11 => fun _ => ()
  | 12 => fun x => (x.Kind, x.First, x.Second, x.Key, x.From, x.To, x.Step, ())
  | 13 => fun _ => ()
  | 14 => fun x => (x.Routes, x.Shards, x.Work, x.Turn, ())
  | 15 => fun _ => ()
  | 16 => fun _ => ()
  | 17 => fun x => (x.Live, x.Group, ())
  | 18 => fun x => (x.Base, x.Conf, x.Nodes, x.Up, x.Bag, x.Answers, ())
  | 19 => fun x => (x.Asked, x.Reply, ())
  | 20 => fun x => (x.Client, x.Seq, x.Cmd, ())
  | 21 => fun x => (x.Kind, x.Key, x.Value, x.Old, ())
  | 22 => fun x => (x.Kind, x.To, x.Epoch, x.Conf, x.Log, ())
  | 23 => fun x => (x.Epoch, x.Members, x.Fresh, ())
  | 24 => fun x => (x.Conf, x.Ready, x.Log, ())
  | 25 => fun x => (x.Span, x.Pairs, x.Known, x.Sealed, x.Cut, ())
  | 26 => fun x => (x.Client, x.Seq, x.Reply, ())
  | 27 => fun x => (x.Key, x.Value, ())
  | 28 => fun x => (x.Cache, x.Seq, x.Busy, x.Wish, x.Called, ())
  | 29 => fun x => (x.Client, x.Seq, x.Wish, x.Reply, x.Called, x.Returned, ())
  | 30 => fun _ => ()
  | 31 => fun x => (x.Shards, x.Clients, x.Results, x.Work, x.Turn, x.Clock, ())
  | 32 => fun x => (x.Kind, x.Who, x.Node, x.Number, x.Wish, x.Inner, x.Work, ())
  | 33 => fun x => (x.Kind, x.Node, x.Place, x.Sent, ())
  | 34 => fun _ => ()
  | 35 => fun _ => ()
  | 36 => fun _ => ()
  | 37 => fun _ => ()
  | 38 => fun x => (x.b, x.p, ())
  | _ + 39 => fun _ => ()
def tof : ∀ i, (TR i).den TT → TT i
  | 0 => fun _ => ()
  | 1 => fun _ => ()
  | 2 => fun _ => ()
  | 3 => fun _ => ()
  | 4 => fun _ => ()
  | 5 => fun _ => ()
  | 6 => fun _ => ()
  | 7 => fun _ => ()
  | 8 => fun _ => ()
  | 9 => fun x => ⟨x.1, x.2.1⟩
  | 10 => fun x => ⟨x.1, x.2.1⟩
  | 11 => fun _ => ()
  | 12 => fun x => ⟨x.1, x.2.1, x.2.2.1, x.2.2.2.1, x.2.2.2.2.1, x.2.2.2.2.2.1, x.2.2.2.2.2.2.1⟩
  | 13 => fun _ => ()
  | 14 => fun x => ⟨x.1, x.2.1, x.2.2.1, x.2.2.2.1⟩
  | 15 => fun _ => ()
  | 16 => fun _ => ()
  | 17 => fun x => ⟨x.1, x.2.1⟩
  | 18 => fun x => ⟨x.1, x.2.1, x.2.2.1, x.2.2.2.1, x.2.2.2.2.1, x.2.2.2.2.2.1⟩
  | 19 => fun x => ⟨x.1, x.2.1⟩
  | 20 => fun x => ⟨x.1, x.2.1, x.2.2.1⟩
  | 21 => fun x => ⟨x.1, x.2.1, x.2.2.1, x.2.2.2.1⟩
  | 22 => fun x => ⟨x.1, x.2.1, x.2.2.1, x.2.2.2.1, x.2.2.2.2.1⟩
  | 23 => fun x => ⟨x.1, x.2.1, x.2.2.1⟩
  | 24 => fun x => ⟨x.1, x.2.1, x.2.2.1⟩
  | 25 => fun x => ⟨x.1, x.2.1, x.2.2.1, x.2.2.2.1, x.2.2.2.2.1⟩
  | 26 => fun x => ⟨x.1, x.2.1, x.2.2.1⟩
  | 27 => fun x => ⟨x.1, x.2.1⟩
  | 28 => fun x => ⟨x.1, x.2.1, x.2.2.1, x.2.2.2.1, x.2.2.2.2.1⟩
  | 29 => fun x => ⟨x.1, x.2.1, x.2.2.1, x.2.2.2.1, x.2.2.2.2.1, x.2.2.2.2.2.1⟩
  | 30 => fun _ => ()
  | 31 => fun x => ⟨x.1, x.2.1, x.2.2.1, x.2.2.2.1, x.2.2.2.2.1, x.2.2.2.2.2.1⟩
  | 32 => fun x => ⟨x.1, x.2.1, x.2.2.1, x.2.2.2.1, x.2.2.2.2.1, x.2.2.2.2.2.1, x.2.2.2.2.2.2.1⟩
  | 33 => fun x => ⟨x.1, x.2.1, x.2.2.1, x.2.2.2.1⟩
  | 34 => fun _ => ()
  | 35 => fun _ => ()
  | 36 => fun _ => ()
  | 37 => fun _ => ()
  | 38 => fun x => ⟨x.1, x.2.1⟩
  | _ + 39 => fun _ => ()
def z_impl_Interval : impl_Interval := ⟨⟨#[]⟩, ⟨#[]⟩⟩
def z_impl_Route : impl_Route := ⟨(0 : Int), z_impl_Interval⟩
def z_impl_Plan : impl_Plan := ⟨(0 : Int), (0 : Int), (0 : Int), ⟨#[]⟩, (0 : Int), (0 : Int), (0 : Int)⟩
def z_impl_Master : impl_Master := ⟨[], (0 : Int), z_impl_Plan, (0 : Int)⟩
def z_impl_Pair : impl_Pair := ⟨⟨#[]⟩, (0 : Int)⟩
def z_impl_Session : impl_Session := ⟨(0 : Int), (0 : Int), (0 : Int)⟩
def z_impl_State : impl_State := ⟨z_impl_Interval, [], [], false, ⟨#[]⟩⟩
def z_impl_Config : impl_Config := ⟨(0 : Int), [], false⟩
def z_impl_Command : impl_Command := ⟨(0 : Int), ⟨#[]⟩, (0 : Int), (0 : Int)⟩
def z_impl_Entry : impl_Entry := ⟨(0 : Int), (0 : Int), z_impl_Command⟩
def z_impl_Replica : impl_Replica := ⟨z_impl_Config, false, []⟩
def z_impl_Message : impl_Message := ⟨(0 : Int), (0 : Int), (0 : Int), z_impl_Config, []⟩
def z_impl_Answer : impl_Answer := ⟨z_impl_Entry, (0 : Int)⟩
def z_impl_Chain : impl_Chain := ⟨z_impl_State, z_impl_Config, [], [], [], []⟩
def z_impl_Shard : impl_Shard := ⟨false, z_impl_Chain⟩
def z_impl_Caller : impl_Caller := ⟨[], (0 : Int), false, z_impl_Command, (0 : Int)⟩
def z_impl_Result : impl_Result := ⟨(0 : Int), (0 : Int), z_impl_Command, (0 : Int), (0 : Int), (0 : Int)⟩
def z_impl_Cluster : impl_Cluster := ⟨[], [], [], z_impl_Plan, (0 : Int), (0 : Int)⟩
def z_impl_Event : impl_Event := ⟨(0 : Int), (0 : Int), (0 : Int), z_impl_Entry⟩
def z_impl_Deed : impl_Deed := ⟨(0 : Int), (0 : Int), (0 : Int), (0 : Int), z_impl_Command, z_impl_Event, z_impl_Plan⟩
def z_spec_l20Rd : spec_l20Rd := ⟨[], (0 : Int)⟩
def tz : ∀ i, TT i
  | 0 => ()
  | 1 => ()
  | 2 => ()
  | 3 => ()
  | 4 => ()
  | 5 => ()
  | 6 => ()
  | 7 => ()
  | 8 => ()
  | 9 => z_impl_Route
  | 10 => z_impl_Interval
  | 11 => ()
  | 12 => z_impl_Plan
  | 13 => ()
  | 14 => z_impl_Master
  | 15 => ()
  | 16 => ()
  | 17 => z_impl_Shard
  | 18 => z_impl_Chain
  | 19 => z_impl_Answer
  | 20 => z_impl_Entry
  | 21 => z_impl_Command
  | 22 => z_impl_Message
  | 23 => z_impl_Config
  | 24 => z_impl_Replica
  | 25 => z_impl_State
  | 26 => z_impl_Session
  | 27 => z_impl_Pair
  | 28 => z_impl_Caller
  | 29 => z_impl_Result
  | 30 => ()
  | 31 => z_impl_Cluster
  | 32 => z_impl_Deed
  | 33 => z_impl_Event
  | 34 => ()
  | 35 => ()
  | 36 => ()
  | 37 => ()
  | 38 => z_spec_l20Rd
  | _ + 39 => ()
theorem t1 : ∀ i (x : (TR i).den TT), tto i (tof i x) = x
  | 0 => fun _ => rfl
  | 1 => fun _ => rfl
  | 2 => fun _ => rfl
  | 3 => fun _ => rfl
  | 4 => fun _ => rfl
  | 5 => fun _ => rfl
  | 6 => fun _ => rfl
  | 7 => fun _ => rfl
  | 8 => fun _ => rfl
  | 9 => fun _ => rfl
  | 10 => fun _ => rfl
  | 11 => fun _ => rfl
  | 12 => fun _ => rfl
  | 13 => fun _ => rfl
  | 14 => fun _ => rfl
  | 15 => fun _ => rfl
  | 16 => fun _ => rfl
  | 17 => fun _ => rfl
  | 18 => fun _ => rfl
  | 19 => fun _ => rfl
  | 20 => fun _ => rfl
  | 21 => fun _ => rfl
  | 22 => fun _ => rfl
  | 23 => fun _ => rfl
  | 24 => fun _ => rfl
  | 25 => fun _ => rfl
  | 26 => fun _ => rfl
  | 27 => fun _ => rfl
  | 28 => fun _ => rfl
  | 29 => fun _ => rfl
  | 30 => fun _ => rfl
  | 31 => fun _ => rfl
  | 32 => fun _ => rfl
  | 33 => fun _ => rfl
  | 34 => fun _ => rfl
  | 35 => fun _ => rfl
  | 36 => fun _ => rfl
  | 37 => fun _ => rfl
  | 38 => fun _ => rfl
  | _ + 39 => fun _ => rfl
theorem t2 : ∀ i (x : TT i), tof i (tto i x) = x
  | 0 => fun _ => rfl
  | 1 => fun _ => rfl
  | 2 => fun _ => rfl
  | 3 => fun _ => rfl
  | 4 => fun _ => rfl
  | 5 => fun _ => rfl
  | 6 => fun _ => rfl
  | 7 => fun _ => rfl
  | 8 => fun _ => rfl
  | 9 => fun _ => rfl
  | 10 => fun _ => rfl
  | 11 => fun _ => rfl
  | 12 => fun _ => rfl
  | 13 => fun _ => rfl
  | 14 => fun _ => rfl
  | 15 => fun _ => rfl
  | 16 => fun _ => rfl
  | 17 => fun _ => rfl
  | 18 => fun _ => rfl
  | 19 => fun _ => rfl
  | 20 => fun _ => rfl
  | 21 => fun _ => rfl
  | 22 => fun _ => rfl
  | 23 => fun _ => rfl
  | 24 => fun _ => rfl
  | 25 => fun _ => rfl
  | 26 => fun _ => rfl
  | 27 => fun _ => rfl
  | 28 => fun _ => rfl
  | 29 => fun _ => rfl
  | 30 => fun _ => rfl
  | 31 => fun _ => rfl
  | 32 => fun _ => rfl
  | 33 => fun _ => rfl
  | 34 => fun _ => rfl
  | 35 => fun _ => rfl
  | 36 => fun _ => rfl
  | 37 => fun _ => rfl
  | 38 => fun _ => rfl
  | _ + 39 => fun _ => rfl
instance : Tys := ⟨TT, TR, tto, tof, tz, t1, t2⟩
def look {α : Type} (k : Nat) : List (Nat × α) → Option α
  | [] => none
  | x :: l => bif Nat.beq x.1 k then some x.2 else look k l
noncomputable def FTl : List (Nat × Func) := [(5, Tryz.f5), (9, Tryz.f9), (11, Tryz.f11), (12, Tryz.f12), (16, Tryz.f16), (17, Tryz.f17), (18, Tryz.f18), (19, Tryz.f19), (20, Tryz.f20), (21, Tryz.f21), (22, Tryz.f22), (34, Tryz.f34), (35, Tryz.f35), (36, Tryz.f36), (37, Tryz.f37), (38, Tryz.f38), (39, Tryz.f39), (40, Tryz.f40), (42, Tryz.f42), (47, Tryz.f47), (49, Tryz.f49), (51, Tryz.f51), (52, Tryz.f52), (53, Tryz.f53), (54, Tryz.f54), (55, Tryz.f55), (56, Tryz.f56), (57, Tryz.f57), (58, Tryz.f58), (59, Tryz.f59), (60, Tryz.f60), (61, Tryz.f61), (62, Tryz.f62), (63, Tryz.f63), (66, Tryz.f66), (69, Tryz.f69), (70, Tryz.f70), (71, Tryz.f71), (72, Tryz.f72), (76, Tryz.f76), (77, Tryz.f77), (78, Tryz.f78), (79, Tryz.f79), (81, Tryz.f81), (82, Tryz.f82), (83, Tryz.f83), (84, Tryz.f84), (85, Tryz.f85), (86, Tryz.f86), (89, Tryz.f89), (91, Tryz.f91), (92, Tryz.f92), (93, Tryz.f93), (94, Tryz.f94), (95, Tryz.f95), (96, Tryz.f96), (97, Tryz.f97), (98, Tryz.f98), (99, Tryz.f99), (100, Tryz.f100), (101, Tryz.f101), (102, Tryz.f102), (103, Tryz.f103), (104, Tryz.f104), (105, Tryz.f105), (106, Tryz.f106), (107, Tryz.f107), (108, Tryz.f108), (109, Tryz.f109), (110, Tryz.f110), (111, Tryz.f111), (112, Tryz.f112), (113, Tryz.f113), (114, Tryz.f114), (115, Tryz.f115), (116, Tryz.f116), (117, Tryz.f117), (118, Tryz.f118), (119, Tryz.f119), (120, Tryz.f120), (121, Tryz.f121), (125, Tryz.f125), (126, Tryz.f126), (135, Tryz.f135), (136, Tryz.f136), (137, Tryz.f137), (138, Tryz.f138), (139, Tryz.f139), (140, Tryz.f140), (141, Tryz.f141), (143, Tryz.f143), (144, Tryz.f144), (145, Tryz.f145), (146, Tryz.f146), (147, Tryz.f147), (149, Tryz.f149), (150, Tryz.f150), (151, Tryz.f151), (152, Tryz.f152), (153, Tryz.f153), (154, Tryz.f154), (155, Tryz.f155), (156, Tryz.f156), (157, Tryz.f157), (158, Tryz.f158), (159, Tryz.f159), (160, Tryz.f160), (161, Tryz.f161), (162, Tryz.f162), (163, Tryz.f163), (164, Tryz.f164), (165, Tryz.f165), (166, Tryz.f166), (167, Tryz.f167), (168, Tryz.f168), (169, Tryz.f169), (170, Tryz.f170), (171, Tryz.f171), (172, Tryz.f172), (173, Tryz.f173), (174, Tryz.f174), (175, Tryz.f175), (176, Tryz.f176), (177, Tryz.f177), (183, Tryz.f183), (201, Tryz.f201), (202, Tryz.f202), (203, Tryz.f203), (204, Tryz.f204), (205, Tryz.f205), (206, Tryz.f206), (207, Tryz.f207), (208, Tryz.f208), (209, Tryz.f209), (210, Tryz.f210), (211, Tryz.f211), (214, Tryz.f214), (215, Tryz.f215), (216, Tryz.f216), (217, Tryz.f217), (218, Tryz.f218), (219, Tryz.f219), (220, Tryz.f220), (221, Tryz.f221), (222, Tryz.f222), (223, Tryz.f223), (224, Tryz.f224), (225, Tryz.f225), (226, Tryz.f226), (227, Tryz.f227), (228, Tryz.f228), (229, Tryz.f229), (230, Tryz.f230), (251, Tryz.f251), (252, Tryz.f252), (253, Tryz.f253), (254, Tryz.f254), (255, Tryz.f255), (256, Tryz.f256), (257, Tryz.f257), (258, Tryz.f258), (259, Tryz.f259), (260, Tryz.f260), (261, Tryz.f261), (262, Tryz.f262), (264, Tryz.f264), (265, Tryz.f265), (276, Tryz.f276), (277, Tryz.f277), (278, Tryz.f278), (279, Tryz.f279), (280, Tryz.f280), (281, Tryz.f281), (282, Tryz.f282), (283, Tryz.f283), (284, Tryz.f284), (285, Tryz.f285), (286, Tryz.f286), (288, Tryz.f288), (296, Tryz.f296), (297, Tryz.f297), (298, Tryz.f298), (299, Tryz.f299), (300, Tryz.f300), (301, Tryz.f301), (302, Tryz.f302), (303, Tryz.f303), (304, Tryz.f304), (305, Tryz.f305), (306, Tryz.f306), (323, Tryz.f323), (324, Tryz.f324), (325, Tryz.f325), (326, Tryz.f326), (343, Tryz.f343), (344, Tryz.f344), (345, Tryz.f345), (348, Tryz.f348)]
def TBl : List (Nat × TI) := [(3, ⟨(.int .i64), 0⟩), (4, ⟨.bool, 0⟩), (5, ⟨(.int .u8), 0⟩), (9, ⟨.str, 0⟩), (22, ⟨(.sl (.int .u8)), 1⟩), (23, ⟨(.sl Y_impl_Route), 40⟩), (25, ⟨Y_impl_Plan, 0⟩), (27, ⟨Y_impl_Master, 0⟩), (40, ⟨(.sl Y_impl_Shard), 248⟩), (41, ⟨(.sl Y_impl_Caller), 88⟩), (42, ⟨(.sl Y_impl_Result), 80⟩), (44, ⟨Y_impl_Cluster, 0⟩), (49, ⟨(.sl (.int .i64)), 8⟩), (53, ⟨(.sl Y_impl_Deed), 216⟩), (58, ⟨Y_impl_Command, 0⟩), (60, ⟨Y_impl_Entry, 0⟩), (62, ⟨Y_impl_Event, 0⟩), (64, ⟨Y_impl_Deed, 0⟩), (72, ⟨(.bx Y_spec_l20Rd), 0⟩), (76, ⟨Y_impl_Interval, 0⟩), (78, ⟨Y_impl_Route, 0⟩), (96, ⟨(.sl Y_impl_Pair), 24⟩), (97, ⟨(.sl Y_impl_Session), 24⟩), (99, ⟨Y_impl_State, 0⟩), (101, ⟨Y_impl_Config, 0⟩), (102, ⟨(.sl Y_impl_Replica), 72⟩), (103, ⟨(.sl .bool), 1⟩), (104, ⟨(.sl Y_impl_Message), 88⟩), (105, ⟨(.sl Y_impl_Answer), 64⟩), (107, ⟨Y_impl_Chain, 0⟩), (109, ⟨Y_impl_Shard, 0⟩), (113, ⟨Y_impl_Caller, 0⟩), (116, ⟨Y_impl_Result, 0⟩), (134, ⟨Y_spec_l20Rd, 0⟩), (136, ⟨(.sl Y_impl_Interval), 32⟩), (155, ⟨(.sl Y_impl_Entry), 56⟩), (157, ⟨Y_impl_Replica, 0⟩), (160, ⟨Y_impl_Message, 0⟩), (177, ⟨(.sl .str), 16⟩), (179, ⟨(.sl Y_impl_Event), 80⟩), (187, ⟨(.sl Y_impl_Config), 40⟩), (188, ⟨(.sl Y_impl_Command), 40⟩), (192, ⟨Y_impl_Answer, 0⟩), (196, ⟨Y_impl_Pair, 0⟩), (203, ⟨Y_impl_Session, 0⟩), (239, ⟨(.sl (.sl (.int .i64))), 24⟩), (267, ⟨(.int .u64), 0⟩)]
def SGl : List (Nat × Sig) := [(5, ⟨[.bor], (.pair .bool .unit), .lit⟩),
  (9, ⟨[.bor], (.pair .bool .unit), .lit⟩),
  (11, ⟨[], (.pair Y_impl_Master .unit), (.pair (.pair (.own .lit) .lit) .lit)⟩),
  (12, ⟨[], (.pair .bool .unit), .lit⟩),
  (16, ⟨[.bor, .bor], (.pair .bool .unit), .lit⟩),
  (17, ⟨[.bor], (.pair .bool .unit), .lit⟩),
  (18, ⟨[.bor], (.pair Y_impl_Cluster .unit), (.pair (.pair (.own (.pair .lit (.pair (.pair (.pair .lit (.pair (.own .lit) (.pair (.own .lit) .lit))) (.pair (.pair .lit (.pair (.own .lit) .lit)) (.pair (.own (.pair (.pair .lit (.pair (.own .lit) .lit)) (.pair .lit (.pair (.own .lit) .lit)))) (.pair (.own .lit) (.pair (.own (.pair .lit (.pair .lit (.pair .lit (.pair (.pair .lit (.pair (.own .lit) .lit)) (.pair (.own .lit) .lit)))))) (.pair (.own .lit) .lit)))))) .lit))) (.pair (.own (.pair (.own .lit) .lit)) (.pair (.own .lit) .lit))) .lit)⟩),
  (19, ⟨[.bor], (.pair Y_impl_Master .unit), (.pair (.pair (.own .lit) .lit) .lit)⟩),
  (20, ⟨[.bor], (.pair Y_impl_Master .unit), (.pair (.pair (.own .lit) .lit) .lit)⟩),
  (21, ⟨[.bor], (.pair .bool .unit), .lit⟩),
  (22, ⟨[.bor], (.pair Y_impl_Cluster .unit), (.pair (.pair (.own (.pair .lit (.pair (.pair (.pair .lit (.pair (.own .lit) (.pair (.own .lit) .lit))) (.pair (.pair .lit (.pair (.own .lit) .lit)) (.pair (.own (.pair (.pair .lit (.pair (.own .lit) .lit)) (.pair .lit (.pair (.own .lit) .lit)))) (.pair (.own .lit) (.pair (.own (.pair .lit (.pair .lit (.pair .lit (.pair (.pair .lit (.pair (.own .lit) .lit)) (.pair (.own .lit) .lit)))))) (.pair (.own .lit) .lit)))))) .lit))) (.pair (.own (.pair (.own .lit) .lit)) (.pair (.own .lit) .lit))) .lit)⟩),
  (34, ⟨[.bor], (.pair (.bx Y_spec_l20Rd) .unit), (.pair (.own (.pair (.ro [(10000000, 0)]) .lit)) .lit)⟩),
  (35, ⟨[.bor], (.pair .bool .unit), .lit⟩),
  (36, ⟨[.bor], (.pair .bool .unit), .lit⟩),
  (37, ⟨[.bor], (.pair .bool .unit), .lit⟩),
  (38, ⟨[.bor, .bor, .bor], (.pair .bool .unit), .lit⟩),
  (39, ⟨[.bor, .bor], (.pair .bool .unit), .lit⟩),
  (40, ⟨[.bor], (.pair (.int .i64) .unit), .lit⟩),
  (42, ⟨[.io, .bor], (.pair (.int .i64) (.tc (.bx Y_spec_l20Rd) .unit)), (.pair .lit (.pair (.own (.pair (.ro [(10000000, 0)]) .lit)) .lit))⟩),
  (47, ⟨[.bor], (.pair .bool .unit), .lit⟩),
  (49, ⟨[.bor, .bor], (.pair (.int .i64) .unit), .lit⟩),
  (51, ⟨[.bor, .bor], (.pair .bool .unit), .lit⟩),
  (52, ⟨[.io, .bor], (.pair Y_impl_Cluster (.tc (.bx Y_spec_l20Rd) .unit)), (.pair (.pair (.own (.pair .lit (.pair (.pair (.pair .lit (.pair (.own .lit) (.pair (.own .lit) .lit))) (.pair (.pair .lit (.pair (.own .lit) .lit)) (.pair (.own (.pair (.pair .lit (.pair (.own .lit) .lit)) (.pair .lit (.pair (.own .lit) .lit)))) (.pair (.own .lit) (.pair (.own (.pair .lit (.pair .lit (.pair .lit (.pair (.pair .lit (.pair (.own .lit) .lit)) (.pair (.own .lit) .lit)))))) (.pair (.own .lit) .lit)))))) .lit))) (.pair (.own (.pair (.own .lit) .lit)) (.pair (.own .lit) .lit))) (.pair (.own (.pair (.ro [(10000000, 0)]) .lit)) .lit))⟩),
  (53, ⟨[.bor], (.pair (.sl Y_impl_Route) .unit), (.pair (.own .lit) .lit)⟩),
  (54, ⟨[.bor], (.pair .bool .unit), .lit⟩),
  (55, ⟨[.bor], (.pair (.sl Y_impl_Route) .unit), (.pair (.own .lit) .lit)⟩),
  (56, ⟨[.bor], (.pair .bool .unit), .lit⟩),
  (57, ⟨[.bor, .bor], (.pair .bool .unit), .lit⟩),
  (58, ⟨[.bor], (.pair .bool .unit), .lit⟩),
  (59, ⟨[.bor], (.pair .bool .unit), .lit⟩),
  (60, ⟨[.bor], (.pair .bool .unit), .lit⟩),
  (61, ⟨[.bor], (.pair .bool .unit), .lit⟩),
  (62, ⟨[.bor, .bor], (.pair Y_impl_Chain .unit), (.pair (.pair (.pair .lit (.pair (.own .lit) (.pair (.own .lit) .lit))) (.pair (.pair .lit (.pair (.own .lit) .lit)) (.pair (.own (.pair (.pair .lit (.pair (.own .lit) .lit)) (.pair .lit (.pair (.own .lit) .lit)))) (.pair (.own .lit) (.pair (.own (.pair .lit (.pair .lit (.pair .lit (.pair (.pair .lit (.pair (.own .lit) .lit)) (.pair (.own .lit) .lit)))))) (.pair (.own .lit) .lit)))))) .lit)⟩),
  (63, ⟨[.bor], (.pair Y_impl_State .unit), (.pair (.pair .lit (.pair (.own .lit) (.pair (.own .lit) .lit))) .lit)⟩),
  (66, ⟨[.io, .bor], (.pair (.tc Y_impl_Cluster (.tc (.sl Y_impl_Deed) .unit)) (.tc (.bx Y_spec_l20Rd) .unit)), (.pair (.pair (.pair (.own (.pair .lit (.pair (.pair (.pair .lit (.pair (.own .lit) (.pair (.own .lit) .lit))) (.pair (.pair .lit (.pair (.own .lit) .lit)) (.pair (.own (.pair (.pair .lit (.pair (.own .lit) .lit)) (.pair .lit (.pair (.own .lit) .lit)))) (.pair (.own .lit) (.pair (.own (.pair .lit (.pair .lit (.pair .lit (.pair (.pair .lit (.pair (.own .lit) .lit)) (.pair (.own .lit) .lit)))))) (.pair (.own .lit) .lit)))))) .lit))) (.pair (.own (.pair (.own .lit) .lit)) (.pair (.own .lit) .lit))) (.pair (.own .lit) .lit)) (.pair (.own (.pair (.ro [(10000000, 0)]) .lit)) .lit))⟩),
  (69, ⟨[.bor], (.pair .bool .unit), .lit⟩),
  (70, ⟨[.bor], (.pair .bool .unit), .lit⟩),
  (71, ⟨[.bor], (.pair .bool .unit), .lit⟩),
  (72, ⟨[.bor], (.pair .bool .unit), .lit⟩),
  (76, ⟨[.io, .bor], (.pair (.sl Y_impl_Deed) (.tc (.bx Y_spec_l20Rd) .unit)), (.pair (.own .lit) (.pair (.own (.pair (.ro [(10000000, 0)]) .lit)) .lit))⟩),
  (77, ⟨[.bor, .bor], (.pair (.tc Y_impl_Cluster (.tc .bool .unit)) .unit), (.pair (.pair (.pair (.own (.pair .lit (.pair (.pair (.pair .lit (.pair (.own .lit) (.pair (.own .lit) .lit))) (.pair (.pair .lit (.pair (.own .lit) .lit)) (.pair (.own (.pair (.pair .lit (.pair (.own .lit) .lit)) (.pair .lit (.pair (.own .lit) .lit)))) (.pair (.own .lit) (.pair (.own (.pair .lit (.pair .lit (.pair .lit (.pair (.pair .lit (.pair (.own .lit) .lit)) (.pair (.own .lit) .lit)))))) (.pair (.own .lit) .lit)))))) .lit))) (.pair (.own (.pair (.own .lit) .lit)) (.pair (.own .lit) .lit))) .lit) .lit)⟩),
  (78, ⟨[.io, .bor], (.pair .bool (.tc (.bx Y_spec_l20Rd) .unit)), (.pair .lit (.pair (.own (.pair (.ro [(10000000, 0)]) .lit)) .lit))⟩),
  (79, ⟨[.io, .bor, .bor], (.pair Y_impl_Plan (.tc (.bx Y_spec_l20Rd) .unit)), (.pair .lit (.pair (.own (.pair (.ro [(10000000, 0)]) .lit)) .lit))⟩),
  (81, ⟨[.bor], (.pair .bool .unit), .lit⟩),
  (82, ⟨[.bor], (.pair (.sl Y_impl_Interval) .unit), (.pair (.own .lit) .lit)⟩),
  (83, ⟨[.bor], (.pair .bool .unit), .lit⟩),
  (84, ⟨[.bor], (.pair .bool .unit), .lit⟩),
  (85, ⟨[.bor], (.pair .bool .unit), .lit⟩),
  (86, ⟨[.bor, .bor], (.pair (.int .i64) .unit), .lit⟩),
  (89, ⟨[.bor, .bor], (.pair (.int .i64) .unit), .lit⟩),
  (91, ⟨[.bor], (.pair .bool .unit), .lit⟩),
  (92, ⟨[.bor, .bor], (.pair (.tc Y_impl_Interval (.tc Y_impl_Interval (.tc .bool .unit))) .unit), .lit⟩),
  (93, ⟨[.bor, .bor], (.pair (.tc Y_impl_Interval (.tc .bool .unit)) .unit), .lit⟩),
  (94, ⟨[.bor, .bor], (.pair Y_impl_Cluster .unit), (.pair (.pair (.own (.pair .lit (.pair (.pair (.pair .lit (.pair (.own .lit) (.pair (.own .lit) .lit))) (.pair (.pair .lit (.pair (.own .lit) .lit)) (.pair (.own (.pair (.pair .lit (.pair (.own .lit) .lit)) (.pair .lit (.pair (.own .lit) .lit)))) (.pair (.own .lit) (.pair (.own (.pair .lit (.pair .lit (.pair .lit (.pair (.pair .lit (.pair (.own .lit) .lit)) (.pair (.own .lit) .lit)))))) (.pair (.own .lit) .lit)))))) .lit))) (.pair (.own (.pair (.own .lit) .lit)) (.pair (.own .lit) .lit))) .lit)⟩),
  (95, ⟨[.io, .bor], (.pair Y_impl_Config (.tc (.bx Y_spec_l20Rd) .unit)), (.pair (.pair .lit (.pair (.own .lit) .lit)) (.pair (.own (.pair (.ro [(10000000, 0)]) .lit)) .lit))⟩),
  (96, ⟨[.io, .bor], (.pair Y_impl_Caller (.tc (.bx Y_spec_l20Rd) .unit)), (.pair (.pair (.own .lit) .lit) (.pair (.own (.pair (.ro [(10000000, 0)]) .lit)) .lit))⟩),
  (97, ⟨[.io, .bor], (.pair Y_impl_Command (.tc (.bx Y_spec_l20Rd) .unit)), (.pair .lit (.pair (.own (.pair (.ro [(10000000, 0)]) .lit)) .lit))⟩),
  (98, ⟨[.io, .bor], (.pair .unit (.tc (.sl Y_impl_Route) .unit)), (.pair .lit (.pair (.own .lit) .lit))⟩),
  (99, ⟨[.bor, .bor], (.pair (.int .i64) .unit), .lit⟩),
  (100, ⟨[.bor, .bor], (.pair (.int .i64) .unit), .lit⟩),
  (101, ⟨[.bor], (.pair .bool .unit), .lit⟩),
  (102, ⟨[.bor], (.pair .bool .unit), .lit⟩),
  (103, ⟨[.bor], (.pair .bool .unit), .lit⟩),
  (104, ⟨[.bor], (.pair (.sl Y_impl_Route) .unit), (.pair (.own .lit) .lit)⟩),
  (105, ⟨[.bor], (.pair .bool .unit), .lit⟩),
  (106, ⟨[.bor], (.pair .bool .unit), .lit⟩),
  (107, ⟨[.bor], (.pair .bool .unit), .lit⟩),
  (108, ⟨[.bor], (.pair .bool .unit), .lit⟩),
  (109, ⟨[.bor], (.pair .bool .unit), .lit⟩),
  (110, ⟨[.bor], (.pair .bool .unit), .lit⟩),
  (111, ⟨[.bor], (.pair .bool .unit), .lit⟩),
  (112, ⟨[.bor], (.pair .bool .unit), .lit⟩),
  (113, ⟨[.bor], (.pair (.sl (.int .i64)) .unit), (.pair (.own .lit) .lit)⟩),
  (114, ⟨[.bor], (.pair Y_impl_State .unit), (.pair (.pair .lit (.pair (.own .lit) (.pair (.own .lit) .lit))) .lit)⟩),
  (115, ⟨[.bor, .bor], (.pair .bool .unit), .lit⟩),
  (116, ⟨[.bor], (.pair Y_impl_Config .unit), (.pair (.pair .lit (.pair (.own .lit) .lit)) .lit)⟩),
  (117, ⟨[.bor], (.pair .bool .unit), .lit⟩),
  (118, ⟨[.bor], (.pair Y_impl_Cluster .unit), (.pair (.pair (.own (.pair .lit (.pair (.pair (.pair .lit (.pair (.own .lit) (.pair (.own .lit) .lit))) (.pair (.pair .lit (.pair (.own .lit) .lit)) (.pair (.own (.pair (.pair .lit (.pair (.own .lit) .lit)) (.pair .lit (.pair (.own .lit) .lit)))) (.pair (.own .lit) (.pair (.own (.pair .lit (.pair .lit (.pair .lit (.pair (.pair .lit (.pair (.own .lit) .lit)) (.pair (.own .lit) .lit)))))) (.pair (.own .lit) .lit)))))) .lit))) (.pair (.own (.pair (.own .lit) .lit)) (.pair (.own .lit) .lit))) .lit)⟩),
  (119, ⟨[.io], (.pair (.sl (.int .i64)) (.tc (.bx Y_spec_l20Rd) .unit)), (.pair (.own .lit) (.pair (.own (.pair (.ro [(10000000, 0)]) .lit)) .lit))⟩),
  (120, ⟨[.io, .bor], (.pair (.sl Y_impl_Deed) (.tc (.bx Y_spec_l20Rd) .unit)), (.pair (.own .lit) (.pair (.own (.pair (.ro [(10000000, 0)]) .lit)) .lit))⟩),
  (121, ⟨[.io, .bor], (.pair Y_impl_Command (.tc (.bx Y_spec_l20Rd) .unit)), (.pair .lit (.pair (.own (.pair (.ro [(10000000, 0)]) .lit)) .lit))⟩),
  (125, ⟨[.bor], (.pair .bool .unit), .lit⟩),
  (126, ⟨[.bor], (.pair .bool .unit), .lit⟩),
  (135, ⟨[.bor, .bor], (.pair (.sl Y_impl_Deed) .unit), (.pair (.own .lit) .lit)⟩),
  (136, ⟨[.bor, .bor], (.pair (.sl Y_impl_Event) .unit), (.pair (.own .lit) .lit)⟩),
  (137, ⟨[.io, .bor, .bor], (.pair (.sl Y_impl_Deed) (.tc (.bx Y_spec_l20Rd) .unit)), (.pair (.own .lit) (.pair (.own (.pair (.ro [(10000000, 0)]) .lit)) .lit))⟩),
  (138, ⟨[.bor], (.pair .bool .unit), .lit⟩),
  (139, ⟨[.bor], (.pair Y_impl_Cluster .unit), (.pair (.pair (.own (.pair .lit (.pair (.pair (.pair .lit (.pair (.own .lit) (.pair (.own .lit) .lit))) (.pair (.pair .lit (.pair (.own .lit) .lit)) (.pair (.own (.pair (.pair .lit (.pair (.own .lit) .lit)) (.pair .lit (.pair (.own .lit) .lit)))) (.pair (.own .lit) (.pair (.own (.pair .lit (.pair .lit (.pair .lit (.pair (.pair .lit (.pair (.own .lit) .lit)) (.pair (.own .lit) .lit)))))) (.pair (.own .lit) .lit)))))) .lit))) (.pair (.own (.pair (.own .lit) .lit)) (.pair (.own .lit) .lit))) .lit)⟩),
  (140, ⟨[.own, .bor], (.pair (.tc Y_impl_Cluster (.tc .bool .unit)) .unit), (.pair (.pair (.pair (.own (.pair .lit (.pair (.pair (.pair .lit (.pair (.own .lit) (.pair (.own .lit) .lit))) (.pair (.pair .lit (.pair (.own .lit) .lit)) (.pair (.own (.pair (.pair .lit (.pair (.own .lit) .lit)) (.pair .lit (.pair (.own .lit) .lit)))) (.pair (.own .lit) (.pair (.own (.pair .lit (.pair .lit (.pair .lit (.pair (.pair .lit (.pair (.own .lit) .lit)) (.pair (.own .lit) .lit)))))) (.pair (.own .lit) .lit)))))) .lit))) (.pair (.own (.pair (.own .lit) .lit)) (.pair (.own .lit) .lit))) .lit) .lit)⟩),
  (141, ⟨[.io, .bor], (.pair .str (.tc (.bx Y_spec_l20Rd) .unit)), (.pair .lit (.pair (.own (.pair (.ro [(10000000, 0)]) .lit)) .lit))⟩),
  (143, ⟨[.bor, .bor], (.pair (.tc Y_impl_Interval (.tc .bool .unit)) .unit), .lit⟩),
  (144, ⟨[.bor], (.pair .bool .unit), .lit⟩),
  (145, ⟨[.bor], (.pair .bool .unit), .lit⟩),
  (146, ⟨[.bor], (.pair (.int .i64) .unit), .lit⟩),
  (147, ⟨[.bor, .bor], (.pair (.tc Y_impl_Interval (.tc Y_impl_Interval (.tc .bool .unit))) .unit), .lit⟩),
  (149, ⟨[.bor, .bor], (.pair (.tc Y_impl_Config (.tc .bool .unit)) .unit), (.pair (.pair (.pair .lit (.pair (.own .lit) .lit)) .lit) .lit)⟩),
  (150, ⟨[.bor, .bor], (.pair (.tc Y_impl_Config (.tc .bool .unit)) .unit), (.pair (.pair (.pair .lit (.pair (.own .lit) .lit)) .lit) .lit)⟩),
  (151, ⟨[.bor], (.pair Y_impl_Config .unit), (.pair (.pair .lit (.pair (.own .lit) .lit)) .lit)⟩),
  (152, ⟨[.io, .bor], (.pair (.sl Y_impl_Route) (.tc (.bx Y_spec_l20Rd) .unit)), (.pair (.own .lit) (.pair (.own (.pair (.ro [(10000000, 0)]) .lit)) .lit))⟩),
  (153, ⟨[.io, .bor], (.pair (.int .i64) (.tc (.bx Y_spec_l20Rd) .unit)), (.pair .lit (.pair (.own (.pair (.ro [(10000000, 0)]) .lit)) .lit))⟩),
  (154, ⟨[.io, .bor, .bor], (.pair .unit (.tc (.sl Y_impl_Route) .unit)), (.pair .lit (.pair (.own .lit) .lit))⟩),
  (155, ⟨[.bor], (.pair .bool .unit), .lit⟩),
  (156, ⟨[.bor], (.pair .bool .unit), .lit⟩),
  (157, ⟨[.bor], (.pair .bool .unit), .lit⟩),
  (158, ⟨[.bor], (.pair .bool .unit), .lit⟩),
  (159, ⟨[.bor], (.pair .bool .unit), .lit⟩),
  (160, ⟨[.bor], (.pair .bool .unit), .lit⟩),
  (161, ⟨[.bor], (.pair .bool .unit), .lit⟩),
  (162, ⟨[.bor], (.pair .bool .unit), .lit⟩),
  (163, ⟨[.bor], (.pair .bool .unit), .lit⟩),
  (164, ⟨[.bor], (.pair .bool .unit), .lit⟩),
  (165, ⟨[.bor, .bor], (.pair .bool .unit), .lit⟩),
  (166, ⟨[.bor], (.pair .bool .unit), .lit⟩),
  (167, ⟨[.bor], (.pair .bool .unit), .lit⟩),
  (168, ⟨[.bor], (.pair .bool .unit), .lit⟩),
  (169, ⟨[.bor], (.pair (.sl Y_impl_Pair) .unit), (.pair (.own .lit) .lit)⟩),
  (170, ⟨[.bor], (.pair (.sl Y_impl_Session) .unit), (.pair (.own .lit) .lit)⟩),
  (171, ⟨[.bor, .bor], (.pair (.int .i64) .unit), .lit⟩),
  (172, ⟨[.bor], (.pair .str .unit), .lit⟩),
  (173, ⟨[.bor, .bor], (.pair Y_impl_Chain .unit), (.pair (.pair (.pair .lit (.pair (.own .lit) (.pair (.own .lit) .lit))) (.pair (.pair .lit (.pair (.own .lit) .lit)) (.pair (.own (.pair (.pair .lit (.pair (.own .lit) .lit)) (.pair .lit (.pair (.own .lit) .lit)))) (.pair (.own .lit) (.pair (.own (.pair .lit (.pair .lit (.pair .lit (.pair (.pair .lit (.pair (.own .lit) .lit)) (.pair (.own .lit) .lit)))))) (.pair (.own .lit) .lit)))))) .lit)⟩),
  (174, ⟨[.bor], (.pair Y_impl_State .unit), (.pair (.pair .lit (.pair (.own .lit) (.pair (.own .lit) .lit))) .lit)⟩),
  (175, ⟨[.io, .bor], (.pair (.sl (.int .i64)) (.tc (.bx Y_spec_l20Rd) .unit)), (.pair (.own .lit) (.pair (.own (.pair (.ro [(10000000, 0)]) .lit)) .lit))⟩),
  (176, ⟨[.io, .bor, .bor], (.pair (.sl Y_impl_Deed) (.tc (.bx Y_spec_l20Rd) .unit)), (.pair (.own .lit) (.pair (.own (.pair (.ro [(10000000, 0)]) .lit)) .lit))⟩),
  (177, ⟨[.io, .bor, .bor], (.pair Y_impl_Event (.tc (.bx Y_spec_l20Rd) .unit)), (.pair .lit (.pair (.own (.pair (.ro [(10000000, 0)]) .lit)) .lit))⟩),
  (183, ⟨[.bor], (.pair .bool .unit), .lit⟩),
  (201, ⟨[.bor], (.pair .bool .unit), .lit⟩),
  (202, ⟨[.bor], (.pair Y_impl_Chain .unit), (.pair (.pair (.pair .lit (.pair (.own .lit) (.pair (.own .lit) .lit))) (.pair (.pair .lit (.pair (.own .lit) .lit)) (.pair (.own (.pair (.pair .lit (.pair (.own .lit) .lit)) (.pair .lit (.pair (.own .lit) .lit)))) (.pair (.own .lit) (.pair (.own (.pair .lit (.pair .lit (.pair .lit (.pair (.pair .lit (.pair (.own .lit) .lit)) (.pair (.own .lit) .lit)))))) (.pair (.own .lit) .lit)))))) .lit)⟩),
  (203, ⟨[.bor], (.pair Y_impl_Caller .unit), (.pair (.pair (.own .lit) .lit) .lit)⟩),
  (204, ⟨[.bor, .bor, .bor], (.pair (.tc Y_impl_Caller (.tc .bool .unit)) .unit), (.pair (.pair (.pair (.own .lit) .lit) .lit) .lit)⟩),
  (205, ⟨[.bor], (.pair (.tc Y_impl_Caller (.tc .bool .unit)) .unit), (.pair (.pair (.pair (.own .lit) .lit) .lit) .lit)⟩),
  (206, ⟨[.own, .bor], (.pair (.tc Y_impl_Cluster (.tc .bool .unit)) .unit), (.pair (.pair (.pair (.own (.pair .lit (.pair (.pair (.pair .lit (.pair (.own .lit) (.pair (.own .lit) .lit))) (.pair (.pair .lit (.pair (.own .lit) .lit)) (.pair (.own (.pair (.pair .lit (.pair (.own .lit) .lit)) (.pair .lit (.pair (.own .lit) .lit)))) (.pair (.own .lit) (.pair (.own (.pair .lit (.pair .lit (.pair .lit (.pair (.pair .lit (.pair (.own .lit) .lit)) (.pair (.own .lit) .lit)))))) (.pair (.own .lit) .lit)))))) .lit))) (.pair (.own (.pair (.own .lit) .lit)) (.pair (.own .lit) .lit))) .lit) .lit)⟩),
  (207, ⟨[.own, .bor], (.pair (.tc Y_impl_Cluster (.tc .bool .unit)) .unit), (.pair (.pair (.pair (.own (.pair .lit (.pair (.pair (.pair .lit (.pair (.own .lit) (.pair (.own .lit) .lit))) (.pair (.pair .lit (.pair (.own .lit) .lit)) (.pair (.own (.pair (.pair .lit (.pair (.own .lit) .lit)) (.pair .lit (.pair (.own .lit) .lit)))) (.pair (.own .lit) (.pair (.own (.pair .lit (.pair .lit (.pair .lit (.pair (.pair .lit (.pair (.own .lit) .lit)) (.pair (.own .lit) .lit)))))) (.pair (.own .lit) .lit)))))) .lit))) (.pair (.own (.pair (.own .lit) .lit)) (.pair (.own .lit) .lit))) .lit) .lit)⟩),
  (208, ⟨[.bor, .bor], (.pair .bool .unit), .lit⟩),
  (209, ⟨[.bor, .bor], (.pair (.tc Y_impl_Entry (.tc .bool .unit)) .unit), .lit⟩),
  (210, ⟨[.own, .bor, .bor, .bor], (.pair (.tc Y_impl_Cluster (.tc .bool .unit)) .unit), (.pair (.pair (.pair (.own (.pair .lit (.pair (.pair (.pair .lit (.pair (.own .lit) (.pair (.own .lit) .lit))) (.pair (.pair .lit (.pair (.own .lit) .lit)) (.pair (.own (.pair (.pair .lit (.pair (.own .lit) .lit)) (.pair .lit (.pair (.own .lit) .lit)))) (.pair (.own .lit) (.pair (.own (.pair .lit (.pair .lit (.pair .lit (.pair (.pair .lit (.pair (.own .lit) .lit)) (.pair (.own .lit) .lit)))))) (.pair (.own .lit) .lit)))))) .lit))) (.pair (.own (.pair (.own .lit) .lit)) (.pair (.own .lit) .lit))) .lit) .lit)⟩),
  (211, ⟨[.own], (.pair (.tc Y_impl_Cluster (.tc .bool .unit)) .unit), (.pair (.pair (.pair (.own (.pair .lit (.pair (.pair (.pair .lit (.pair (.own .lit) (.pair (.own .lit) .lit))) (.pair (.pair .lit (.pair (.own .lit) .lit)) (.pair (.own (.pair (.pair .lit (.pair (.own .lit) .lit)) (.pair .lit (.pair (.own .lit) .lit)))) (.pair (.own .lit) (.pair (.own (.pair .lit (.pair .lit (.pair .lit (.pair (.pair .lit (.pair (.own .lit) .lit)) (.pair (.own .lit) .lit)))))) (.pair (.own .lit) .lit)))))) .lit))) (.pair (.own (.pair (.own .lit) .lit)) (.pair (.own .lit) .lit))) .lit) .lit)⟩),
  (214, ⟨[.bor], (.pair Y_impl_Config .unit), (.pair (.pair .lit (.pair (.own .lit) .lit)) .lit)⟩),
  (215, ⟨[.bor, .bor], (.pair (.int .i64) .unit), .lit⟩),
  (216, ⟨[.bor], (.pair (.sl (.int .i64)) .unit), (.pair (.own .lit) .lit)⟩),
  (217, ⟨[.bor, .bor], (.pair (.sl Y_impl_Route) .unit), (.pair (.own .lit) .lit)⟩),
  (218, ⟨[.io, .bor], (.pair Y_impl_Interval (.tc (.bx Y_spec_l20Rd) .unit)), (.pair .lit (.pair (.own (.pair (.ro [(10000000, 0)]) .lit)) .lit))⟩),
  (219, ⟨[.io, .bor, .bor, .bor], (.pair .unit (.tc (.sl Y_impl_Route) .unit)), (.pair .lit (.pair (.own .lit) .lit))⟩),
  (220, ⟨[.io, .bor, .bor, .bor, .bor], (.pair .unit (.tc (.sl Y_impl_Route) .unit)), (.pair .lit (.pair (.own .lit) .lit))⟩),
  (221, ⟨[.bor], (.pair .bool .unit), .lit⟩),
  (222, ⟨[.bor], (.pair .bool .unit), .lit⟩),
  (223, ⟨[.bor, .bor], (.pair .bool .unit), .lit⟩),
  (224, ⟨[.bor], (.pair .bool .unit), .lit⟩),
  (225, ⟨[.bor], (.pair .bool .unit), .lit⟩),
  (226, ⟨[.bor], (.pair .bool .unit), .lit⟩),
  (227, ⟨[.bor], (.pair .bool .unit), .lit⟩),
  (228, ⟨[.bor], (.pair Y_impl_State .unit), (.pair (.pair .lit (.pair (.own .lit) (.pair (.own .lit) .lit))) .lit)⟩),
  (229, ⟨[.bor, .bor], (.pair (.int .i64) .unit), .lit⟩),
  (230, ⟨[.bor, .bor], (.pair (.int .i64) .unit), .lit⟩),
  (251, ⟨[.bor, .bor], (.pair (.sl Y_impl_Message) .unit), (.pair (.own (.pair .lit (.pair .lit (.pair .lit (.pair (.pair .lit (.pair (.own .lit) .lit)) (.pair (.own .lit) .lit)))))) .lit)⟩),
  (252, ⟨[.bor], (.pair Y_impl_Replica .unit), (.pair (.pair (.pair .lit (.pair (.own .lit) .lit)) (.pair .lit (.pair (.own .lit) .lit))) .lit)⟩),
  (253, ⟨[.bor, .bor], (.pair (.tc Y_impl_Interval (.tc .bool .unit)) .unit), .lit⟩),
  (254, ⟨[.own, .bor, .bor], (.pair (.tc Y_impl_Cluster (.tc .bool .unit)) .unit), (.pair (.pair (.pair (.own (.pair .lit (.pair (.pair (.pair .lit (.pair (.own .lit) (.pair (.own .lit) .lit))) (.pair (.pair .lit (.pair (.own .lit) .lit)) (.pair (.own (.pair (.pair .lit (.pair (.own .lit) .lit)) (.pair .lit (.pair (.own .lit) .lit)))) (.pair (.own .lit) (.pair (.own (.pair .lit (.pair .lit (.pair .lit (.pair (.pair .lit (.pair (.own .lit) .lit)) (.pair (.own .lit) .lit)))))) (.pair (.own .lit) .lit)))))) .lit))) (.pair (.own (.pair (.own .lit) .lit)) (.pair (.own .lit) .lit))) .lit) .lit)⟩),
  (255, ⟨[.bor, .bor], (.pair (.tc Y_impl_Entry (.tc .bool .unit)) .unit), .lit⟩),
  (256, ⟨[.bor, .bor], (.pair (.tc Y_impl_Chain (.tc .bool .unit)) .unit), (.pair (.pair (.pair (.pair .lit (.pair (.own .lit) (.pair (.own .lit) .lit))) (.pair (.pair .lit (.pair (.own .lit) .lit)) (.pair (.own (.pair (.pair .lit (.pair (.own .lit) .lit)) (.pair .lit (.pair (.own .lit) .lit)))) (.pair (.own .lit) (.pair (.own (.pair .lit (.pair .lit (.pair .lit (.pair (.pair .lit (.pair (.own .lit) .lit)) (.pair (.own .lit) .lit)))))) (.pair (.own .lit) .lit)))))) .lit) .lit)⟩),
  (257, ⟨[.own], (.pair (.tc Y_impl_Cluster (.tc .bool .unit)) .unit), (.pair (.pair (.pair (.own (.pair .lit (.pair (.pair (.pair .lit (.pair (.own .lit) (.pair (.own .lit) .lit))) (.pair (.pair .lit (.pair (.own .lit) .lit)) (.pair (.own (.pair (.pair .lit (.pair (.own .lit) .lit)) (.pair .lit (.pair (.own .lit) .lit)))) (.pair (.own .lit) (.pair (.own (.pair .lit (.pair .lit (.pair .lit (.pair (.pair .lit (.pair (.own .lit) .lit)) (.pair (.own .lit) .lit)))))) (.pair (.own .lit) .lit)))))) .lit))) (.pair (.own (.pair (.own .lit) .lit)) (.pair (.own .lit) .lit))) .lit) .lit)⟩),
  (258, ⟨[.bor, .bor], (.pair .bool .unit), .lit⟩),
  (259, ⟨[.bor], (.pair (.tc Y_impl_State (.tc Y_impl_State (.tc .bool .unit))) .unit), (.pair (.pair (.pair .lit (.pair (.own .lit) (.pair (.own .lit) .lit))) (.pair (.pair .lit (.pair (.own .lit) (.pair (.own .lit) .lit))) .lit)) .lit)⟩),
  (260, ⟨[.bor], (.pair Y_impl_State .unit), (.pair (.pair .lit (.pair (.own .lit) (.pair (.own .lit) .lit))) .lit)⟩),
  (261, ⟨[.own, .bor, .bor], (.pair Y_impl_Cluster .unit), (.pair (.pair (.own (.pair .lit (.pair (.pair (.pair .lit (.pair (.own .lit) (.pair (.own .lit) .lit))) (.pair (.pair .lit (.pair (.own .lit) .lit)) (.pair (.own (.pair (.pair .lit (.pair (.own .lit) .lit)) (.pair .lit (.pair (.own .lit) .lit)))) (.pair (.own .lit) (.pair (.own (.pair .lit (.pair .lit (.pair .lit (.pair (.pair .lit (.pair (.own .lit) .lit)) (.pair (.own .lit) .lit)))))) (.pair (.own .lit) .lit)))))) .lit))) (.pair (.own (.pair (.own .lit) .lit)) (.pair (.own .lit) .lit))) .lit)⟩),
  (262, ⟨[.bor, .bor], (.pair (.tc Y_impl_State (.tc .bool .unit)) .unit), (.pair (.pair (.pair .lit (.pair (.own .lit) (.pair (.own .lit) .lit))) .lit) .lit)⟩),
  (264, ⟨[.bor, .bor], (.pair (.tc Y_impl_Interval (.tc .bool .unit)) .unit), .lit⟩),
  (265, ⟨[.io, .bor, .bor, .bor, .bor], (.pair .unit (.tc (.sl Y_impl_Route) .unit)), (.pair .lit (.pair (.own .lit) .lit))⟩),
  (276, ⟨[.bor], (.pair Y_impl_Message .unit), (.pair (.pair .lit (.pair .lit (.pair .lit (.pair (.pair .lit (.pair (.own .lit) .lit)) (.pair (.own .lit) .lit))))) .lit)⟩),
  (277, ⟨[.bor, .bor], (.pair (.sl Y_impl_Route) .unit), (.pair (.own .lit) .lit)⟩),
  (278, ⟨[.bor, .bor, .bor, .bor], (.pair (.tc Y_impl_Caller (.tc Y_impl_Result (.tc .bool .unit))) .unit), (.pair (.pair (.pair (.own .lit) .lit) .lit) .lit)⟩),
  (279, ⟨[.own, .bor], (.pair (.tc Y_impl_Chain (.tc .bool .unit)) .unit), (.pair (.pair (.pair (.pair .lit (.pair (.own .lit) (.pair (.own .lit) .lit))) (.pair (.pair .lit (.pair (.own .lit) .lit)) (.pair (.own (.pair (.pair .lit (.pair (.own .lit) .lit)) (.pair .lit (.pair (.own .lit) .lit)))) (.pair (.own .lit) (.pair (.own (.pair .lit (.pair .lit (.pair .lit (.pair (.pair .lit (.pair (.own .lit) .lit)) (.pair (.own .lit) .lit)))))) (.pair (.own .lit) .lit)))))) .lit) .lit)⟩),
  (280, ⟨[.own, .bor], (.pair (.tc Y_impl_Chain (.tc .bool .unit)) .unit), (.pair (.pair (.pair (.pair .lit (.pair (.own .lit) (.pair (.own .lit) .lit))) (.pair (.pair .lit (.pair (.own .lit) .lit)) (.pair (.own (.pair (.pair .lit (.pair (.own .lit) .lit)) (.pair .lit (.pair (.own .lit) .lit)))) (.pair (.own .lit) (.pair (.own (.pair .lit (.pair .lit (.pair .lit (.pair (.pair .lit (.pair (.own .lit) .lit)) (.pair (.own .lit) .lit)))))) (.pair (.own .lit) .lit)))))) .lit) .lit)⟩),
  (281, ⟨[.own, .bor], (.pair (.tc Y_impl_Chain (.tc .bool .unit)) .unit), (.pair (.pair (.pair (.pair .lit (.pair (.own .lit) (.pair (.own .lit) .lit))) (.pair (.pair .lit (.pair (.own .lit) .lit)) (.pair (.own (.pair (.pair .lit (.pair (.own .lit) .lit)) (.pair .lit (.pair (.own .lit) .lit)))) (.pair (.own .lit) (.pair (.own (.pair .lit (.pair .lit (.pair .lit (.pair (.pair .lit (.pair (.own .lit) .lit)) (.pair (.own .lit) .lit)))))) (.pair (.own .lit) .lit)))))) .lit) .lit)⟩),
  (282, ⟨[.bor, .bor], (.pair (.sl Y_impl_Pair) .unit), (.pair (.own .lit) .lit)⟩),
  (283, ⟨[.bor, .bor], (.pair (.tc Y_impl_State (.tc (.sl (.int .i64)) .unit)) .unit), (.pair (.pair (.pair .lit (.pair (.own .lit) (.pair (.own .lit) .lit))) (.pair (.own .lit) .lit)) .lit)⟩),
  (284, ⟨[.bor], (.pair (.sl Y_impl_Entry) .unit), (.pair (.own .lit) .lit)⟩),
  (285, ⟨[.bor, .bor], (.pair (.tc (.sl Y_impl_Pair) (.tc .bool .unit)) .unit), (.pair (.pair (.own .lit) .lit) .lit)⟩),
  (286, ⟨[.bor, .bor], (.pair (.sl Y_impl_Session) .unit), (.pair (.own .lit) .lit)⟩),
  (288, ⟨[.io, .bor, .bor, .bor, .bor], (.pair .unit (.tc (.sl Y_impl_Route) .unit)), (.pair .lit (.pair (.own .lit) .lit))⟩),
  (296, ⟨[.bor, .bor], (.pair (.tc (.sl Y_impl_Message) (.tc .bool .unit)) .unit), (.pair (.pair (.own (.pair .lit (.pair .lit (.pair .lit (.pair (.pair .lit (.pair (.own .lit) .lit)) (.pair (.own .lit) .lit)))))) .lit) .lit)⟩),
  (297, ⟨[.bor, .bor], (.pair (.tc Y_impl_Message (.tc (.sl Y_impl_Message) (.tc .bool .unit))) .unit), (.pair (.pair (.pair .lit (.pair .lit (.pair .lit (.pair (.pair .lit (.pair (.own .lit) .lit)) (.pair (.own .lit) .lit))))) (.pair (.own (.pair .lit (.pair .lit (.pair .lit (.pair (.pair .lit (.pair (.own .lit) .lit)) (.pair (.own .lit) .lit)))))) .lit)) .lit)⟩),
  (298, ⟨[.bor, .bor, .bor], (.pair (.tc Y_impl_Replica (.tc .bool .unit)) .unit), (.pair (.pair (.pair (.pair .lit (.pair (.own .lit) .lit)) (.pair .lit (.pair (.own .lit) .lit))) .lit) .lit)⟩),
  (299, ⟨[.bor, .bor, .bor], (.pair (.tc Y_impl_Replica (.tc .bool .unit)) .unit), (.pair (.pair (.pair (.pair .lit (.pair (.own .lit) .lit)) (.pair .lit (.pair (.own .lit) .lit))) .lit) .lit)⟩),
  (300, ⟨[.bor, .bor], (.pair (.tc (.sl Y_impl_Message) (.tc .bool .unit)) .unit), (.pair (.pair (.own (.pair .lit (.pair .lit (.pair .lit (.pair (.pair .lit (.pair (.own .lit) .lit)) (.pair (.own .lit) .lit)))))) .lit) .lit)⟩),
  (301, ⟨[.bor, .bor, .bor], (.pair (.tc Y_impl_Replica (.tc .bool .unit)) .unit), (.pair (.pair (.pair (.pair .lit (.pair (.own .lit) .lit)) (.pair .lit (.pair (.own .lit) .lit))) .lit) .lit)⟩),
  (302, ⟨[.bor, .bor], (.pair (.int .i64) .unit), .lit⟩),
  (303, ⟨[.bor, .bor], (.pair .bool .unit), .lit⟩),
  (304, ⟨[.bor, .bor, .bor], (.pair (.sl Y_impl_Pair) .unit), (.pair (.own .lit) .lit)⟩),
  (305, ⟨[.bor, .bor], (.pair (.tc Y_impl_State (.tc (.int .i64) .unit)) .unit), (.pair (.pair (.pair .lit (.pair (.own .lit) (.pair (.own .lit) .lit))) .lit) .lit)⟩),
  (306, ⟨[.bor, .bor], (.pair (.tc (.sl Y_impl_Session) (.tc .bool .unit)) .unit), (.pair (.pair (.own .lit) .lit) .lit)⟩),
  (323, ⟨[.bor, .bor], (.pair (.int .i64) .unit), .lit⟩),
  (324, ⟨[.bor, .bor], (.pair Y_impl_Session .unit), .lit⟩),
  (325, ⟨[.bor, .bor], (.pair (.tc (.sl Y_impl_Pair) (.tc (.int .i64) .unit)) .unit), (.pair (.pair (.own .lit) .lit) .lit)⟩),
  (326, ⟨[.bor, .bor], (.pair (.int .i64) .unit), .lit⟩),
  (343, ⟨[.bor, .bor], (.pair (.int .i64) .unit), .lit⟩),
  (344, ⟨[.bor, .bor], (.pair (.tc (.sl Y_impl_Pair) (.tc .bool .unit)) .unit), (.pair (.pair (.own .lit) .lit) .lit)⟩),
  (345, ⟨[.bor, .bor, .bor], (.pair (.tc (.sl Y_impl_Pair) (.tc .bool .unit)) .unit), (.pair (.pair (.own .lit) .lit) .lit)⟩),
  (348, ⟨[.bor, .bor], (.pair (.int .i64) .unit), .lit⟩)]
def STl : List (Nat × List (Nat × List Nat)) := [(9, [(4, [1, 30, 31, 32])]),
  (21, [(4, [1, 32, 33, 34]), (10, [1, 57, 58, 59]), (16, [1, 68, 69, 70])]),
  (37, [(3, [0, 3, 4]), (8, [0, 3, 4, 5])]),
  (49, [(2, [0, 1, 5])]),
  (51, [(4, [0, 1, 5])]),
  (52, [(23, [0, 4, 7])]),
  (53, [(3, [3, 7, 8, 9])]),
  (54, [(4, [1, 3]), (9, [1, 3, 4]), (14, [1, 5]), (19, [1, 6])]),
  (56, [(4, [1, 36, 37, 38]), (10, [1, 56, 57, 58])]),
  (57, [(4, [0, 1, 12, 13])]),
  (62, [(6, [1, 4, 5, 6, 27, 28])]),
  (66, [(5, [0, 1, 4, 6, 7, 8, 9]), (9, [0, 1, 4, 6, 7, 8, 9, 10, 11])]),
  (76, [(8, [0, 3, 7, 8, 9]), (12, [0, 3, 7, 8, 9, 11]), (20, [0, 11])]),
  (79, [(9, [0, 2, 6, 7]), (23, [0, 6, 7])]),
  (81, [(5, [0, 32, 33, 34])]),
  (82, [(3, [3, 6, 7, 8])]),
  (83, [(2, [0, 5, 6, 7])]),
  (85, [(4, [0, 3])]),
  (89, [(2, [1, 7, 8, 9])]),
  (91, [(4, [0, 3])]),
  (94, [(5, [1, 4, 5, 6])]),
  (95, [(3, [0, 1, 4, 5, 6]), (10, [0, 1, 4, 5, 6]), (14, [0, 1, 4, 5])]),
  (96, [(6, [0, 1, 4, 5])]),
  (101, [(4, [1, 3]), (9, [1, 4]), (14, [1, 5])]),
  (104, [(3, [1, 3, 4]), (9, [1, 3, 4, 5, 6, 7])]),
  (105, [(4, [1, 25, 26, 27])]),
  (106, [(5, [1, 34, 35, 36])]),
  (107, [(4, [8, 9, 10])]),
  (109, [(4, [8, 9, 10])]),
  (110, [(4, [0, 13, 14, 15])]),
  (135, [(3, [0, 1, 5, 6])]),
  (136, [(5, [1, 5, 6, 7, 8]), (9, [1, 5, 6, 7, 9]), (12, [5, 6, 7])]),
  (137, [(8, [0, 2, 8, 9, 10, 11])]),
  (138, [(4, [1, 3, 4, 5]), (6, [1, 4, 5]), (8, [1]), (10, [1]), (11, []), (12, [1])]),
  (139, [(3, [1, 2, 3, 4]), (7, [1, 2, 3, 5])]),
  (141, [(7, [0, 5, 6])]),
  (150, [(9, [2, 4, 6, 9])]),
  (152, [(3, [0, 1, 5, 6])]),
  (154, [(2, [0, 1, 2, 6, 7, 8]), (7, [0, 1, 2, 6]), (9, [0, 1, 2, 6, 7, 8])]),
  (156, [(4, [1, 3])]),
  (157, [(4, [1, 3]), (9, [1, 3, 4])]),
  (158, [(2, [0, 3])]),
  (161, [(2, [0, 3]), (7, [0, 3, 4])]),
  (163, [(4, [0, 8, 9, 10])]),
  (164, [(2, [0, 5, 6, 7])]),
  (168, [(4, [8, 9, 10])]),
  (171, [(2, [0, 1, 7, 8])]),
  (173, [(6, [4, 5, 6, 7])]),
  (175, [(5, [0, 1, 5, 6, 7, 8])]),
  (176, [(8, [0, 2, 4, 7, 8]), (10, [0, 2, 4, 8, 9]), (13, [0, 2, 8])]),
  (177, [(8, [0, 2, 6, 7, 8, 9, 10, 11])]),
  (202, [(3, [1, 2, 3, 4])]),
  (207, [(5, [2, 3, 4, 6, 7]), (8, [2, 3, 4, 6, 7])]),
  (211, [(11, [1, 2, 4, 5, 6]), (21, [1, 2, 4, 10])]),
  (215, [(2, [1, 2, 5])]),
  (217, [(6, [0, 3, 5, 6, 7])]),
  (219, [(1, [0, 1, 2, 3, 8]), (4, [0, 1, 2, 3, 8, 9])]),
  (220, [(3, [0, 1, 4, 10, 11]), (9, [0, 10, 13]), (15, [0, 2, 4, 14, 15]), (21, [0, 14, 17]), (33, [0, 1, 2, 3, 4, 18, 19, 20, 21, 22]), (43, [0, 3, 4, 18, 24])]),
  (221, [(4, [0, 3])]),
  (222, [(2, [0, 3])]),
  (226, [(2, [0, 3])]),
  (229, [(4, [0, 1, 5])]),
  (230, [(4, [0, 1, 5])]),
  (251, [(3, [0, 1, 5, 6])]),
  (254, [(4, [1, 2, 3, 6, 8, 9, 10]), (6, [1, 2, 3, 6, 8, 9, 10])]),
  (256, [(14, [3, 4, 6])]),
  (257, [(6, [1, 2, 4, 5, 6])]),
  (258, [(4, [2, 3, 5])]),
  (262, [(3, [4])]),
  (264, [(8, [4, 6])]),
  (265, [(2, [0, 2, 4, 10, 11])]),
  (277, [(3, [0, 1, 5, 6])]),
  (281, [(24, [2, 4, 6, 15, 16])]),
  (283, [(6, [1, 4, 6, 7, 8])]),
  (284, [(3, [1, 3, 4])]),
  (286, [(5, [1, 5, 6])]),
  (288, [(1, [0, 1, 2, 3, 10])]),
  (304, [(5, [0, 2, 4, 7, 8])]),
  (305, [(15, [2, 3, 4, 6, 11]), (16, [2, 3, 4, 6, 11, 12])]),
  (306, [(8, [0, 3, 6, 7, 8]), (13, [0, 3, 6, 7, 8])]),
  (324, [(2, [0, 1, 4, 5])]),
  (345, [(9, [0, 1, 2, 8, 9])]),
  (348, [(2, [0, 1, 5])])]
def TKl : List (Nat × List (Nat × List Nat)) := [(52, [(6, [16801])]),
  (95, [(15, [123984])]),
  (119, [(3, [8272])]),
  (175, [(10, [82512])]),
  (208, [(0, [9000000]), (1, [9000000]), (2, [9000000]), (3, [9000000]), (4, [9000000]), (5, [9000000]), (6, [9000000]), (7, [9000000]), (8, [9000000]), (9, [9000000]), (10, [9000000]), (11, [9000000])])]
def HLl : List (Nat × List (Nat × List Nat)) := [(52, [(12, [16800])])]
def isIn (n : Nat) : Option (List Nat) → Bool
  | some l => l.any (Nat.beq n)
  | none => false
noncomputable instance : Cx := ⟨Tryz.prog, fun f => look f FTl, fun t => look t TBl, fun f => look f SGl, fun f r => (look f STl).bind (look r), fun f r n => isIn n ((look f TKl).bind (look r)), fun f r n => isIn n ((look f HLl).bind (look r)), fun f r => ((look f HLl).bind (look r)).getD []⟩
def AllP {α : Type} (p : Nat → α → Prop) : List (Nat × α) → Prop
  | [] => True
  | x :: l => p x.1 x.2 ∧ AllP p l
theorem look_all {α : Type} {p : Nat → α → Prop} {k : Nat} {y : α} : ∀ {l : List (Nat × α)}, AllP p l → look k l = some y → p k y
  | x :: l, h, e => by
    simp only [look] at e
    cases b : Nat.beq x.1 k with
    | true => rw [b] at e; obtain rfl := Option.some.inj e; have := Nat.eq_of_beq_eq_true b; subst this; exact h.1
    | false => rw [b] at e; exact look_all h.2 e
theorem td3 : TD Tryz.prog (.int .i64) 3 := ⟨Tryz.underlying3, ⟨Tryz.t3, by kernel_rfl, by kernel_rfl, fun _ => ⟨.int .i64 0, by kernel_rfl, by kernel_rfl⟩⟩⟩
theorem td4 : TD Tryz.prog .bool 4 := ⟨Tryz.underlying4, ⟨Tryz.t4, by kernel_rfl, by kernel_rfl, fun _ => ⟨.bool false, by kernel_rfl, by kernel_rfl⟩⟩⟩
theorem td5 : TD Tryz.prog (.int .u8) 5 := ⟨Tryz.underlying5, ⟨Tryz.t5, by kernel_rfl, by kernel_rfl, fun _ => ⟨.int .u8 0, by kernel_rfl, by kernel_rfl⟩⟩⟩
theorem td9 : TD Tryz.prog .str 9 := ⟨Tryz.underlying9, ⟨Tryz.t9, by kernel_rfl, by kernel_rfl, fun _ => ⟨.string ⟨#[]⟩, by kernel_rfl, by kernel_rfl⟩⟩⟩
theorem td22 : TD Tryz.prog (.sl (.int .u8)) 22 := ⟨5, Tryz.underlying22, ⟨Tryz.t22, by kernel_rfl, by kernel_rfl, fun _ => ⟨.slice none 0 0, by kernel_rfl, by kernel_rfl⟩⟩, td5⟩
theorem td76 : TD Tryz.prog Y_impl_Interval 76 := ⟨_, Tryz.underlying76, ⟨Tryz.t76, by kernel_rfl, by kernel_rfl, fun _ => ⟨.agg #[.string ⟨#[]⟩, .string ⟨#[]⟩], by kernel_rfl, by kernel_rfl⟩⟩, ⟨rfl, by decide, td9, ⟨rfl, by decide, td9, trivial⟩⟩, by kernel_rfl, by kernel_rfl⟩
theorem td78 : TD Tryz.prog Y_impl_Route 78 := ⟨_, Tryz.underlying78, ⟨Tryz.t78, by kernel_rfl, by kernel_rfl, fun _ => ⟨.agg #[.int .i64 0, .string ⟨#[]⟩, .string ⟨#[]⟩], by kernel_rfl, by kernel_rfl⟩⟩, ⟨rfl, by decide, td3, ⟨rfl, by decide, td76, trivial⟩⟩, by kernel_rfl, by kernel_rfl⟩
theorem td23 : TD Tryz.prog (.sl Y_impl_Route) 23 := ⟨78, Tryz.underlying23, ⟨Tryz.t23, by kernel_rfl, by kernel_rfl, fun _ => ⟨.slice none 0 0, by kernel_rfl, by kernel_rfl⟩⟩, td78⟩
theorem td25 : TD Tryz.prog Y_impl_Plan 25 := ⟨_, Tryz.underlying25, ⟨Tryz.t25, by kernel_rfl, by kernel_rfl, fun _ => ⟨.agg #[.int .i64 0, .int .i64 0, .int .i64 0, .string ⟨#[]⟩, .int .i64 0, .int .i64 0, .int .i64 0], by kernel_rfl, by kernel_rfl⟩⟩, ⟨rfl, by decide, td3, ⟨rfl, by decide, td3, ⟨rfl, by decide, td3, ⟨rfl, by decide, td9, ⟨rfl, by decide, td3, ⟨rfl, by decide, td3, ⟨rfl, by decide, td3, trivial⟩⟩⟩⟩⟩⟩⟩, by kernel_rfl, by kernel_rfl⟩
theorem td27 : TD Tryz.prog Y_impl_Master 27 := ⟨_, Tryz.underlying27, ⟨Tryz.t27, by kernel_rfl, by kernel_rfl, fun _ => ⟨.agg #[.slice none 0 0, .int .i64 0, .int .i64 0, .int .i64 0, .int .i64 0, .string ⟨#[]⟩, .int .i64 0, .int .i64 0, .int .i64 0, .int .i64 0], by kernel_rfl, by kernel_rfl⟩⟩, ⟨rfl, by decide, td23, ⟨rfl, by decide, td3, ⟨rfl, by decide, td25, ⟨rfl, by decide, td3, trivial⟩⟩⟩⟩, by kernel_rfl, by kernel_rfl⟩
theorem td196 : TD Tryz.prog Y_impl_Pair 196 := ⟨_, Tryz.underlying196, ⟨Tryz.t196, by kernel_rfl, by kernel_rfl, fun _ => ⟨.agg #[.string ⟨#[]⟩, .int .i64 0], by kernel_rfl, by kernel_rfl⟩⟩, ⟨rfl, by decide, td9, ⟨rfl, by decide, td3, trivial⟩⟩, by kernel_rfl, by kernel_rfl⟩
theorem td96 : TD Tryz.prog (.sl Y_impl_Pair) 96 := ⟨196, Tryz.underlying96, ⟨Tryz.t96, by kernel_rfl, by kernel_rfl, fun _ => ⟨.slice none 0 0, by kernel_rfl, by kernel_rfl⟩⟩, td196⟩
theorem td203 : TD Tryz.prog Y_impl_Session 203 := ⟨_, Tryz.underlying203, ⟨Tryz.t203, by kernel_rfl, by kernel_rfl, fun _ => ⟨.agg #[.int .i64 0, .int .i64 0, .int .i64 0], by kernel_rfl, by kernel_rfl⟩⟩, ⟨rfl, by decide, td3, ⟨rfl, by decide, td3, ⟨rfl, by decide, td3, trivial⟩⟩⟩, by kernel_rfl, by kernel_rfl⟩
theorem td97 : TD Tryz.prog (.sl Y_impl_Session) 97 := ⟨203, Tryz.underlying97, ⟨Tryz.t97, by kernel_rfl, by kernel_rfl, fun _ => ⟨.slice none 0 0, by kernel_rfl, by kernel_rfl⟩⟩, td203⟩
theorem td99 : TD Tryz.prog Y_impl_State 99 := ⟨_, Tryz.underlying99, ⟨Tryz.t99, by kernel_rfl, by kernel_rfl, fun _ => ⟨.agg #[.string ⟨#[]⟩, .string ⟨#[]⟩, .slice none 0 0, .slice none 0 0, .bool false, .string ⟨#[]⟩], by kernel_rfl, by kernel_rfl⟩⟩, ⟨rfl, by decide, td76, ⟨rfl, by decide, td96, ⟨rfl, by decide, td97, ⟨rfl, by decide, td4, ⟨rfl, by decide, td9, trivial⟩⟩⟩⟩⟩, by kernel_rfl, by kernel_rfl⟩
theorem td49 : TD Tryz.prog (.sl (.int .i64)) 49 := ⟨3, Tryz.underlying49, ⟨Tryz.t49, by kernel_rfl, by kernel_rfl, fun _ => ⟨.slice none 0 0, by kernel_rfl, by kernel_rfl⟩⟩, td3⟩
theorem td101 : TD Tryz.prog Y_impl_Config 101 := ⟨_, Tryz.underlying101, ⟨Tryz.t101, by kernel_rfl, by kernel_rfl, fun _ => ⟨.agg #[.int .i64 0, .slice none 0 0, .bool false], by kernel_rfl, by kernel_rfl⟩⟩, ⟨rfl, by decide, td3, ⟨rfl, by decide, td49, ⟨rfl, by decide, td4, trivial⟩⟩⟩, by kernel_rfl, by kernel_rfl⟩
theorem td58 : TD Tryz.prog Y_impl_Command 58 := ⟨_, Tryz.underlying58, ⟨Tryz.t58, by kernel_rfl, by kernel_rfl, fun _ => ⟨.agg #[.int .i64 0, .string ⟨#[]⟩, .int .i64 0, .int .i64 0], by kernel_rfl, by kernel_rfl⟩⟩, ⟨rfl, by decide, td3, ⟨rfl, by decide, td9, ⟨rfl, by decide, td3, ⟨rfl, by decide, td3, trivial⟩⟩⟩⟩, by kernel_rfl, by kernel_rfl⟩
theorem td60 : TD Tryz.prog Y_impl_Entry 60 := ⟨_, Tryz.underlying60, ⟨Tryz.t60, by kernel_rfl, by kernel_rfl, fun _ => ⟨.agg #[.int .i64 0, .int .i64 0, .int .i64 0, .string ⟨#[]⟩, .int .i64 0, .int .i64 0], by kernel_rfl, by kernel_rfl⟩⟩, ⟨rfl, by decide, td3, ⟨rfl, by decide, td3, ⟨rfl, by decide, td58, trivial⟩⟩⟩, by kernel_rfl, by kernel_rfl⟩
theorem td155 : TD Tryz.prog (.sl Y_impl_Entry) 155 := ⟨60, Tryz.underlying155, ⟨Tryz.t155, by kernel_rfl, by kernel_rfl, fun _ => ⟨.slice none 0 0, by kernel_rfl, by kernel_rfl⟩⟩, td60⟩
theorem td157 : TD Tryz.prog Y_impl_Replica 157 := ⟨_, Tryz.underlying157, ⟨Tryz.t157, by kernel_rfl, by kernel_rfl, fun _ => ⟨.agg #[.int .i64 0, .slice none 0 0, .bool false, .bool false, .slice none 0 0], by kernel_rfl, by kernel_rfl⟩⟩, ⟨rfl, by decide, td101, ⟨rfl, by decide, td4, ⟨rfl, by decide, td155, trivial⟩⟩⟩, by kernel_rfl, by kernel_rfl⟩
theorem td102 : TD Tryz.prog (.sl Y_impl_Replica) 102 := ⟨157, Tryz.underlying102, ⟨Tryz.t102, by kernel_rfl, by kernel_rfl, fun _ => ⟨.slice none 0 0, by kernel_rfl, by kernel_rfl⟩⟩, td157⟩
theorem td103 : TD Tryz.prog (.sl .bool) 103 := ⟨4, Tryz.underlying103, ⟨Tryz.t103, by kernel_rfl, by kernel_rfl, fun _ => ⟨.slice none 0 0, by kernel_rfl, by kernel_rfl⟩⟩, td4⟩
theorem td160 : TD Tryz.prog Y_impl_Message 160 := ⟨_, Tryz.underlying160, ⟨Tryz.t160, by kernel_rfl, by kernel_rfl, fun _ => ⟨.agg #[.int .i64 0, .int .i64 0, .int .i64 0, .int .i64 0, .slice none 0 0, .bool false, .slice none 0 0], by kernel_rfl, by kernel_rfl⟩⟩, ⟨rfl, by decide, td3, ⟨rfl, by decide, td3, ⟨rfl, by decide, td3, ⟨rfl, by decide, td101, ⟨rfl, by decide, td155, trivial⟩⟩⟩⟩⟩, by kernel_rfl, by kernel_rfl⟩
theorem td104 : TD Tryz.prog (.sl Y_impl_Message) 104 := ⟨160, Tryz.underlying104, ⟨Tryz.t104, by kernel_rfl, by kernel_rfl, fun _ => ⟨.slice none 0 0, by kernel_rfl, by kernel_rfl⟩⟩, td160⟩
theorem td192 : TD Tryz.prog Y_impl_Answer 192 := ⟨_, Tryz.underlying192, ⟨Tryz.t192, by kernel_rfl, by kernel_rfl, fun _ => ⟨.agg #[.int .i64 0, .int .i64 0, .int .i64 0, .string ⟨#[]⟩, .int .i64 0, .int .i64 0, .int .i64 0], by kernel_rfl, by kernel_rfl⟩⟩, ⟨rfl, by decide, td60, ⟨rfl, by decide, td3, trivial⟩⟩, by kernel_rfl, by kernel_rfl⟩
theorem td105 : TD Tryz.prog (.sl Y_impl_Answer) 105 := ⟨192, Tryz.underlying105, ⟨Tryz.t105, by kernel_rfl, by kernel_rfl, fun _ => ⟨.slice none 0 0, by kernel_rfl, by kernel_rfl⟩⟩, td192⟩
theorem td107 : TD Tryz.prog Y_impl_Chain 107 := ⟨_, Tryz.underlying107, ⟨Tryz.t107, by kernel_rfl, by kernel_rfl, fun _ => ⟨.agg #[.string ⟨#[]⟩, .string ⟨#[]⟩, .slice none 0 0, .slice none 0 0, .bool false, .string ⟨#[]⟩, .int .i64 0, .slice none 0 0, .bool false, .slice none 0 0, .slice none 0 0, .slice none 0 0, .slice none 0 0], by kernel_rfl, by kernel_rfl⟩⟩, ⟨rfl, by decide, td99, ⟨rfl, by decide, td101, ⟨rfl, by decide, td102, ⟨rfl, by decide, td103, ⟨rfl, by decide, td104, ⟨rfl, by decide, td105, trivial⟩⟩⟩⟩⟩⟩, by kernel_rfl, by kernel_rfl⟩
theorem td109 : TD Tryz.prog Y_impl_Shard 109 := ⟨_, Tryz.underlying109, ⟨Tryz.t109, by kernel_rfl, by kernel_rfl, fun _ => ⟨.agg #[.bool false, .string ⟨#[]⟩, .string ⟨#[]⟩, .slice none 0 0, .slice none 0 0, .bool false, .string ⟨#[]⟩, .int .i64 0, .slice none 0 0, .bool false, .slice none 0 0, .slice none 0 0, .slice none 0 0, .slice none 0 0], by kernel_rfl, by kernel_rfl⟩⟩, ⟨rfl, by decide, td4, ⟨rfl, by decide, td107, trivial⟩⟩, by kernel_rfl, by kernel_rfl⟩
theorem td40 : TD Tryz.prog (.sl Y_impl_Shard) 40 := ⟨109, Tryz.underlying40, ⟨Tryz.t40, by kernel_rfl, by kernel_rfl, fun _ => ⟨.slice none 0 0, by kernel_rfl, by kernel_rfl⟩⟩, td109⟩
theorem td113 : TD Tryz.prog Y_impl_Caller 113 := ⟨_, Tryz.underlying113, ⟨Tryz.t113, by kernel_rfl, by kernel_rfl, fun _ => ⟨.agg #[.slice none 0 0, .int .i64 0, .bool false, .int .i64 0, .string ⟨#[]⟩, .int .i64 0, .int .i64 0, .int .i64 0], by kernel_rfl, by kernel_rfl⟩⟩, ⟨rfl, by decide, td23, ⟨rfl, by decide, td3, ⟨rfl, by decide, td4, ⟨rfl, by decide, td58, ⟨rfl, by decide, td3, trivial⟩⟩⟩⟩⟩, by kernel_rfl, by kernel_rfl⟩
theorem td41 : TD Tryz.prog (.sl Y_impl_Caller) 41 := ⟨113, Tryz.underlying41, ⟨Tryz.t41, by kernel_rfl, by kernel_rfl, fun _ => ⟨.slice none 0 0, by kernel_rfl, by kernel_rfl⟩⟩, td113⟩
theorem td116 : TD Tryz.prog Y_impl_Result 116 := ⟨_, Tryz.underlying116, ⟨Tryz.t116, by kernel_rfl, by kernel_rfl, fun _ => ⟨.agg #[.int .i64 0, .int .i64 0, .int .i64 0, .string ⟨#[]⟩, .int .i64 0, .int .i64 0, .int .i64 0, .int .i64 0, .int .i64 0], by kernel_rfl, by kernel_rfl⟩⟩, ⟨rfl, by decide, td3, ⟨rfl, by decide, td3, ⟨rfl, by decide, td58, ⟨rfl, by decide, td3, ⟨rfl, by decide, td3, ⟨rfl, by decide, td3, trivial⟩⟩⟩⟩⟩⟩, by kernel_rfl, by kernel_rfl⟩
theorem td42 : TD Tryz.prog (.sl Y_impl_Result) 42 := ⟨116, Tryz.underlying42, ⟨Tryz.t42, by kernel_rfl, by kernel_rfl, fun _ => ⟨.slice none 0 0, by kernel_rfl, by kernel_rfl⟩⟩, td116⟩
theorem td44 : TD Tryz.prog Y_impl_Cluster 44 := ⟨_, Tryz.underlying44, ⟨Tryz.t44, by kernel_rfl, by kernel_rfl, fun _ => ⟨.agg #[.slice none 0 0, .slice none 0 0, .slice none 0 0, .int .i64 0, .int .i64 0, .int .i64 0, .string ⟨#[]⟩, .int .i64 0, .int .i64 0, .int .i64 0, .int .i64 0, .int .i64 0], by kernel_rfl, by kernel_rfl⟩⟩, ⟨rfl, by decide, td40, ⟨rfl, by decide, td41, ⟨rfl, by decide, td42, ⟨rfl, by decide, td25, ⟨rfl, by decide, td3, ⟨rfl, by decide, td3, trivial⟩⟩⟩⟩⟩⟩, by kernel_rfl, by kernel_rfl⟩
theorem td62 : TD Tryz.prog Y_impl_Event 62 := ⟨_, Tryz.underlying62, ⟨Tryz.t62, by kernel_rfl, by kernel_rfl, fun _ => ⟨.agg #[.int .i64 0, .int .i64 0, .int .i64 0, .int .i64 0, .int .i64 0, .int .i64 0, .string ⟨#[]⟩, .int .i64 0, .int .i64 0], by kernel_rfl, by kernel_rfl⟩⟩, ⟨rfl, by decide, td3, ⟨rfl, by decide, td3, ⟨rfl, by decide, td3, ⟨rfl, by decide, td60, trivial⟩⟩⟩⟩, by kernel_rfl, by kernel_rfl⟩
theorem td64 : TD Tryz.prog Y_impl_Deed 64 := ⟨_, Tryz.underlying64, ⟨Tryz.t64, by kernel_rfl, by kernel_rfl, fun _ => ⟨.agg #[.int .i64 0, .int .i64 0, .int .i64 0, .int .i64 0, .int .i64 0, .string ⟨#[]⟩, .int .i64 0, .int .i64 0, .int .i64 0, .int .i64 0, .int .i64 0, .int .i64 0, .int .i64 0, .int .i64 0, .string ⟨#[]⟩, .int .i64 0, .int .i64 0, .int .i64 0, .int .i64 0, .int .i64 0, .string ⟨#[]⟩, .int .i64 0, .int .i64 0, .int .i64 0], by kernel_rfl, by kernel_rfl⟩⟩, ⟨rfl, by decide, td3, ⟨rfl, by decide, td3, ⟨rfl, by decide, td3, ⟨rfl, by decide, td3, ⟨rfl, by decide, td58, ⟨rfl, by decide, td62, ⟨rfl, by decide, td25, trivial⟩⟩⟩⟩⟩⟩⟩, by kernel_rfl, by kernel_rfl⟩
theorem td53 : TD Tryz.prog (.sl Y_impl_Deed) 53 := ⟨64, Tryz.underlying53, ⟨Tryz.t53, by kernel_rfl, by kernel_rfl, fun _ => ⟨.slice none 0 0, by kernel_rfl, by kernel_rfl⟩⟩, td64⟩
theorem td72 : TD Tryz.prog (.bx Y_spec_l20Rd) 72 := ⟨134, Tryz.underlying72, ⟨Tryz.t72, by kernel_rfl, by kernel_rfl, fun h => by cases h⟩⟩
theorem td134 : TD Tryz.prog Y_spec_l20Rd 134 := ⟨_, Tryz.underlying134, ⟨Tryz.t134, by kernel_rfl, by kernel_rfl, fun _ => ⟨.agg #[.slice none 0 0, .int .i64 0], by kernel_rfl, by kernel_rfl⟩⟩, ⟨rfl, by decide, td22, ⟨rfl, by decide, td3, trivial⟩⟩, by kernel_rfl, by kernel_rfl⟩
theorem td136 : TD Tryz.prog (.sl Y_impl_Interval) 136 := ⟨76, Tryz.underlying136, ⟨Tryz.t136, by kernel_rfl, by kernel_rfl, fun _ => ⟨.slice none 0 0, by kernel_rfl, by kernel_rfl⟩⟩, td76⟩
theorem td177 : TD Tryz.prog (.sl .str) 177 := ⟨9, Tryz.underlying177, ⟨Tryz.t177, by kernel_rfl, by kernel_rfl, fun _ => ⟨.slice none 0 0, by kernel_rfl, by kernel_rfl⟩⟩, td9⟩
theorem td179 : TD Tryz.prog (.sl Y_impl_Event) 179 := ⟨62, Tryz.underlying179, ⟨Tryz.t179, by kernel_rfl, by kernel_rfl, fun _ => ⟨.slice none 0 0, by kernel_rfl, by kernel_rfl⟩⟩, td62⟩
theorem td187 : TD Tryz.prog (.sl Y_impl_Config) 187 := ⟨101, Tryz.underlying187, ⟨Tryz.t187, by kernel_rfl, by kernel_rfl, fun _ => ⟨.slice none 0 0, by kernel_rfl, by kernel_rfl⟩⟩, td101⟩
theorem td188 : TD Tryz.prog (.sl Y_impl_Command) 188 := ⟨58, Tryz.underlying188, ⟨Tryz.t188, by kernel_rfl, by kernel_rfl, fun _ => ⟨.slice none 0 0, by kernel_rfl, by kernel_rfl⟩⟩, td58⟩
theorem td239 : TD Tryz.prog (.sl (.sl (.int .i64))) 239 := ⟨49, Tryz.underlying239, ⟨Tryz.t239, by kernel_rfl, by kernel_rfl, fun _ => ⟨.slice none 0 0, by kernel_rfl, by kernel_rfl⟩⟩, td49⟩
theorem td267 : TD Tryz.prog (.int .u64) 267 := ⟨Tryz.underlying267, ⟨Tryz.t267, by kernel_rfl, by kernel_rfl, fun _ => ⟨.int .u64 0, by kernel_rfl, by kernel_rfl⟩⟩⟩
theorem tb_all : AllP (fun t (ti : TI) => TD Tryz.prog ti.ty t ∧ ∀ a, ti.ty = .sl a → ∃ e i, Tryz.prog.underlying t = some (.slice e) ∧ Tryz.prog.info? e = some i ∧ i.bytes = ti.eb) TBl := ⟨⟨td3, fun _ h => by cases h⟩, ⟨⟨td4, fun _ h => by cases h⟩, ⟨⟨td5, fun _ h => by cases h⟩, ⟨⟨td9, fun _ h => by cases h⟩, ⟨⟨td22, fun _ h => ⟨5, Tryz.t5, Tryz.underlying22, by kernel_rfl, by kernel_rfl⟩⟩, ⟨⟨td23, fun _ h => ⟨78, Tryz.t78, Tryz.underlying23, by kernel_rfl, by kernel_rfl⟩⟩, ⟨⟨td25, fun _ h => by cases h⟩, ⟨⟨td27, fun _ h => by cases h⟩, ⟨⟨td40, fun _ h => ⟨109, Tryz.t109, Tryz.underlying40, by kernel_rfl, by kernel_rfl⟩⟩, ⟨⟨td41, fun _ h => ⟨113, Tryz.t113, Tryz.underlying41, by kernel_rfl, by kernel_rfl⟩⟩, ⟨⟨td42, fun _ h => ⟨116, Tryz.t116, Tryz.underlying42, by kernel_rfl, by kernel_rfl⟩⟩, ⟨⟨td44, fun _ h => by cases h⟩, ⟨⟨td49, fun _ h => ⟨3, Tryz.t3, Tryz.underlying49, by kernel_rfl, by kernel_rfl⟩⟩, ⟨⟨td53, fun _ h => ⟨64, Tryz.t64, Tryz.underlying53, by kernel_rfl, by kernel_rfl⟩⟩, ⟨⟨td58, fun _ h => by cases h⟩, ⟨⟨td60, fun _ h => by cases h⟩, ⟨⟨td62, fun _ h => by cases h⟩, ⟨⟨td64, fun _ h => by cases h⟩, ⟨⟨td72, fun _ h => by cases h⟩, ⟨⟨td76, fun _ h => by cases h⟩, ⟨⟨td78, fun _ h => by cases h⟩, ⟨⟨td96, fun _ h => ⟨196, Tryz.t196, Tryz.underlying96, by kernel_rfl, by kernel_rfl⟩⟩, ⟨⟨td97, fun _ h => ⟨203, Tryz.t203, Tryz.underlying97, by kernel_rfl, by kernel_rfl⟩⟩, ⟨⟨td99, fun _ h => by cases h⟩, ⟨⟨td101, fun _ h => by cases h⟩, ⟨⟨td102, fun _ h => ⟨157, Tryz.t157, Tryz.underlying102, by kernel_rfl, by kernel_rfl⟩⟩, ⟨⟨td103, fun _ h => ⟨4, Tryz.t4, Tryz.underlying103, by kernel_rfl, by kernel_rfl⟩⟩, ⟨⟨td104, fun _ h => ⟨160, Tryz.t160, Tryz.underlying104, by kernel_rfl, by kernel_rfl⟩⟩, ⟨⟨td105, fun _ h => ⟨192, Tryz.t192, Tryz.underlying105, by kernel_rfl, by kernel_rfl⟩⟩, ⟨⟨td107, fun _ h => by cases h⟩, ⟨⟨td109, fun _ h => by cases h⟩, ⟨⟨td113, fun _ h => by cases h⟩, ⟨⟨td116, fun _ h => by cases h⟩, ⟨⟨td134, fun _ h => by cases h⟩, ⟨⟨td136, fun _ h => ⟨76, Tryz.t76, Tryz.underlying136, by kernel_rfl, by kernel_rfl⟩⟩, ⟨⟨td155, fun _ h => ⟨60, Tryz.t60, Tryz.underlying155, by kernel_rfl, by kernel_rfl⟩⟩, ⟨⟨td157, fun _ h => by cases h⟩, ⟨⟨td160, fun _ h => by cases h⟩, ⟨⟨td177, fun _ h => ⟨9, Tryz.t9, Tryz.underlying177, by kernel_rfl, by kernel_rfl⟩⟩, ⟨⟨td179, fun _ h => ⟨62, Tryz.t62, Tryz.underlying179, by kernel_rfl, by kernel_rfl⟩⟩, ⟨⟨td187, fun _ h => ⟨101, Tryz.t101, Tryz.underlying187, by kernel_rfl, by kernel_rfl⟩⟩, ⟨⟨td188, fun _ h => ⟨58, Tryz.t58, Tryz.underlying188, by kernel_rfl, by kernel_rfl⟩⟩, ⟨⟨td192, fun _ h => by cases h⟩, ⟨⟨td196, fun _ h => by cases h⟩, ⟨⟨td203, fun _ h => by cases h⟩, ⟨⟨td239, fun _ h => ⟨49, Tryz.t49, Tryz.underlying239, by kernel_rfl, by kernel_rfl⟩⟩, ⟨⟨td267, fun _ h => by cases h⟩, trivial⟩⟩⟩⟩⟩⟩⟩⟩⟩⟩⟩⟩⟩⟩⟩⟩⟩⟩⟩⟩⟩⟩⟩⟩⟩⟩⟩⟩⟩⟩⟩⟩⟩⟩⟩⟩⟩⟩⟩⟩⟩⟩⟩⟩⟩⟩⟩
theorem ft_all : AllP (fun f (fn : Func) => Tryz.prog.funcs[f]? = some fn ∧ (fn.name == "runtime.NumGoroutine") = false) FTl := ⟨⟨Tryz.func5, by kernel_rfl⟩, ⟨⟨Tryz.func9, by kernel_rfl⟩, ⟨⟨Tryz.func11, by kernel_rfl⟩, ⟨⟨Tryz.func12, by kernel_rfl⟩, ⟨⟨Tryz.func16, by kernel_rfl⟩, ⟨⟨Tryz.func17, by kernel_rfl⟩, ⟨⟨Tryz.func18, by kernel_rfl⟩, ⟨⟨Tryz.func19, by kernel_rfl⟩, ⟨⟨Tryz.func20, by kernel_rfl⟩, ⟨⟨Tryz.func21, by kernel_rfl⟩, ⟨⟨Tryz.func22, by kernel_rfl⟩, ⟨⟨Tryz.func34, by kernel_rfl⟩, ⟨⟨Tryz.func35, by kernel_rfl⟩, ⟨⟨Tryz.func36, by kernel_rfl⟩, ⟨⟨Tryz.func37, by kernel_rfl⟩, ⟨⟨Tryz.func38, by kernel_rfl⟩, ⟨⟨Tryz.func39, by kernel_rfl⟩, ⟨⟨Tryz.func40, by kernel_rfl⟩, ⟨⟨Tryz.func42, by kernel_rfl⟩, ⟨⟨Tryz.func47, by kernel_rfl⟩, ⟨⟨Tryz.func49, by kernel_rfl⟩, ⟨⟨Tryz.func51, by kernel_rfl⟩, ⟨⟨Tryz.func52, by kernel_rfl⟩, ⟨⟨Tryz.func53, by kernel_rfl⟩, ⟨⟨Tryz.func54, by kernel_rfl⟩, ⟨⟨Tryz.func55, by kernel_rfl⟩, ⟨⟨Tryz.func56, by kernel_rfl⟩, ⟨⟨Tryz.func57, by kernel_rfl⟩, ⟨⟨Tryz.func58, by kernel_rfl⟩, ⟨⟨Tryz.func59, by kernel_rfl⟩, ⟨⟨Tryz.func60, by kernel_rfl⟩, ⟨⟨Tryz.func61, by kernel_rfl⟩, ⟨⟨Tryz.func62, by kernel_rfl⟩, ⟨⟨Tryz.func63, by kernel_rfl⟩, ⟨⟨Tryz.func66, by kernel_rfl⟩, ⟨⟨Tryz.func69, by kernel_rfl⟩, ⟨⟨Tryz.func70, by kernel_rfl⟩, ⟨⟨Tryz.func71, by kernel_rfl⟩, ⟨⟨Tryz.func72, by kernel_rfl⟩, ⟨⟨Tryz.func76, by kernel_rfl⟩, ⟨⟨Tryz.func77, by kernel_rfl⟩, ⟨⟨Tryz.func78, by kernel_rfl⟩, ⟨⟨Tryz.func79, by kernel_rfl⟩, ⟨⟨Tryz.func81, by kernel_rfl⟩, ⟨⟨Tryz.func82, by kernel_rfl⟩, ⟨⟨Tryz.func83, by kernel_rfl⟩, ⟨⟨Tryz.func84, by kernel_rfl⟩, ⟨⟨Tryz.func85, by kernel_rfl⟩, ⟨⟨Tryz.func86, by kernel_rfl⟩, ⟨⟨Tryz.func89, by kernel_rfl⟩, ⟨⟨Tryz.func91, by kernel_rfl⟩, ⟨⟨Tryz.func92, by kernel_rfl⟩, ⟨⟨Tryz.func93, by kernel_rfl⟩, ⟨⟨Tryz.func94, by kernel_rfl⟩, ⟨⟨Tryz.func95, by kernel_rfl⟩, ⟨⟨Tryz.func96, by kernel_rfl⟩, ⟨⟨Tryz.func97, by kernel_rfl⟩, ⟨⟨Tryz.func98, by kernel_rfl⟩, ⟨⟨Tryz.func99, by kernel_rfl⟩, ⟨⟨Tryz.func100, by kernel_rfl⟩, ⟨⟨Tryz.func101, by kernel_rfl⟩, ⟨⟨Tryz.func102, by kernel_rfl⟩, ⟨⟨Tryz.func103, by kernel_rfl⟩, ⟨⟨Tryz.func104, by kernel_rfl⟩, ⟨⟨Tryz.func105, by kernel_rfl⟩, ⟨⟨Tryz.func106, by kernel_rfl⟩, ⟨⟨Tryz.func107, by kernel_rfl⟩, ⟨⟨Tryz.func108, by kernel_rfl⟩, ⟨⟨Tryz.func109, by kernel_rfl⟩, ⟨⟨Tryz.func110, by kernel_rfl⟩, ⟨⟨Tryz.func111, by kernel_rfl⟩, ⟨⟨Tryz.func112, by kernel_rfl⟩, ⟨⟨Tryz.func113, by kernel_rfl⟩, ⟨⟨Tryz.func114, by kernel_rfl⟩, ⟨⟨Tryz.func115, by kernel_rfl⟩, ⟨⟨Tryz.func116, by kernel_rfl⟩, ⟨⟨Tryz.func117, by kernel_rfl⟩, ⟨⟨Tryz.func118, by kernel_rfl⟩, ⟨⟨Tryz.func119, by kernel_rfl⟩, ⟨⟨Tryz.func120, by kernel_rfl⟩, ⟨⟨Tryz.func121, by kernel_rfl⟩, ⟨⟨Tryz.func125, by kernel_rfl⟩, ⟨⟨Tryz.func126, by kernel_rfl⟩, ⟨⟨Tryz.func135, by kernel_rfl⟩, ⟨⟨Tryz.func136, by kernel_rfl⟩, ⟨⟨Tryz.func137, by kernel_rfl⟩, ⟨⟨Tryz.func138, by kernel_rfl⟩, ⟨⟨Tryz.func139, by kernel_rfl⟩, ⟨⟨Tryz.func140, by kernel_rfl⟩, ⟨⟨Tryz.func141, by kernel_rfl⟩, ⟨⟨Tryz.func143, by kernel_rfl⟩, ⟨⟨Tryz.func144, by kernel_rfl⟩, ⟨⟨Tryz.func145, by kernel_rfl⟩, ⟨⟨Tryz.func146, by kernel_rfl⟩, ⟨⟨Tryz.func147, by kernel_rfl⟩, ⟨⟨Tryz.func149, by kernel_rfl⟩, ⟨⟨Tryz.func150, by kernel_rfl⟩, ⟨⟨Tryz.func151, by kernel_rfl⟩, ⟨⟨Tryz.func152, by kernel_rfl⟩, ⟨⟨Tryz.func153, by kernel_rfl⟩, ⟨⟨Tryz.func154, by kernel_rfl⟩, ⟨⟨Tryz.func155, by kernel_rfl⟩, ⟨⟨Tryz.func156, by kernel_rfl⟩, ⟨⟨Tryz.func157, by kernel_rfl⟩, ⟨⟨Tryz.func158, by kernel_rfl⟩, ⟨⟨Tryz.func159, by kernel_rfl⟩, ⟨⟨Tryz.func160, by kernel_rfl⟩, ⟨⟨Tryz.func161, by kernel_rfl⟩, ⟨⟨Tryz.func162, by kernel_rfl⟩, ⟨⟨Tryz.func163, by kernel_rfl⟩, ⟨⟨Tryz.func164, by kernel_rfl⟩, ⟨⟨Tryz.func165, by kernel_rfl⟩, ⟨⟨Tryz.func166, by kernel_rfl⟩, ⟨⟨Tryz.func167, by kernel_rfl⟩, ⟨⟨Tryz.func168, by kernel_rfl⟩, ⟨⟨Tryz.func169, by kernel_rfl⟩, ⟨⟨Tryz.func170, by kernel_rfl⟩, ⟨⟨Tryz.func171, by kernel_rfl⟩, ⟨⟨Tryz.func172, by kernel_rfl⟩, ⟨⟨Tryz.func173, by kernel_rfl⟩, ⟨⟨Tryz.func174, by kernel_rfl⟩, ⟨⟨Tryz.func175, by kernel_rfl⟩, ⟨⟨Tryz.func176, by kernel_rfl⟩, ⟨⟨Tryz.func177, by kernel_rfl⟩, ⟨⟨Tryz.func183, by kernel_rfl⟩, ⟨⟨Tryz.func201, by kernel_rfl⟩, ⟨⟨Tryz.func202, by kernel_rfl⟩, ⟨⟨Tryz.func203, by kernel_rfl⟩, ⟨⟨Tryz.func204, by kernel_rfl⟩, ⟨⟨Tryz.func205, by kernel_rfl⟩, ⟨⟨Tryz.func206, by kernel_rfl⟩, ⟨⟨Tryz.func207, by kernel_rfl⟩, ⟨⟨Tryz.func208, by kernel_rfl⟩, ⟨⟨Tryz.func209, by kernel_rfl⟩, ⟨⟨Tryz.func210, by kernel_rfl⟩, ⟨⟨Tryz.func211, by kernel_rfl⟩, ⟨⟨Tryz.func214, by kernel_rfl⟩, ⟨⟨Tryz.func215, by kernel_rfl⟩, ⟨⟨Tryz.func216, by kernel_rfl⟩, ⟨⟨Tryz.func217, by kernel_rfl⟩, ⟨⟨Tryz.func218, by kernel_rfl⟩, ⟨⟨Tryz.func219, by kernel_rfl⟩, ⟨⟨Tryz.func220, by kernel_rfl⟩, ⟨⟨Tryz.func221, by kernel_rfl⟩, ⟨⟨Tryz.func222, by kernel_rfl⟩, ⟨⟨Tryz.func223, by kernel_rfl⟩, ⟨⟨Tryz.func224, by kernel_rfl⟩, ⟨⟨Tryz.func225, by kernel_rfl⟩, ⟨⟨Tryz.func226, by kernel_rfl⟩, ⟨⟨Tryz.func227, by kernel_rfl⟩, ⟨⟨Tryz.func228, by kernel_rfl⟩, ⟨⟨Tryz.func229, by kernel_rfl⟩, ⟨⟨Tryz.func230, by kernel_rfl⟩, ⟨⟨Tryz.func251, by kernel_rfl⟩, ⟨⟨Tryz.func252, by kernel_rfl⟩, ⟨⟨Tryz.func253, by kernel_rfl⟩, ⟨⟨Tryz.func254, by kernel_rfl⟩, ⟨⟨Tryz.func255, by kernel_rfl⟩, ⟨⟨Tryz.func256, by kernel_rfl⟩, ⟨⟨Tryz.func257, by kernel_rfl⟩, ⟨⟨Tryz.func258, by kernel_rfl⟩, ⟨⟨Tryz.func259, by kernel_rfl⟩, ⟨⟨Tryz.func260, by kernel_rfl⟩, ⟨⟨Tryz.func261, by kernel_rfl⟩, ⟨⟨Tryz.func262, by kernel_rfl⟩, ⟨⟨Tryz.func264, by kernel_rfl⟩, ⟨⟨Tryz.func265, by kernel_rfl⟩, ⟨⟨Tryz.func276, by kernel_rfl⟩, ⟨⟨Tryz.func277, by kernel_rfl⟩, ⟨⟨Tryz.func278, by kernel_rfl⟩, ⟨⟨Tryz.func279, by kernel_rfl⟩, ⟨⟨Tryz.func280, by kernel_rfl⟩, ⟨⟨Tryz.func281, by kernel_rfl⟩, ⟨⟨Tryz.func282, by kernel_rfl⟩, ⟨⟨Tryz.func283, by kernel_rfl⟩, ⟨⟨Tryz.func284, by kernel_rfl⟩, ⟨⟨Tryz.func285, by kernel_rfl⟩, ⟨⟨Tryz.func286, by kernel_rfl⟩, ⟨⟨Tryz.func288, by kernel_rfl⟩, ⟨⟨Tryz.func296, by kernel_rfl⟩, ⟨⟨Tryz.func297, by kernel_rfl⟩, ⟨⟨Tryz.func298, by kernel_rfl⟩, ⟨⟨Tryz.func299, by kernel_rfl⟩, ⟨⟨Tryz.func300, by kernel_rfl⟩, ⟨⟨Tryz.func301, by kernel_rfl⟩, ⟨⟨Tryz.func302, by kernel_rfl⟩, ⟨⟨Tryz.func303, by kernel_rfl⟩, ⟨⟨Tryz.func304, by kernel_rfl⟩, ⟨⟨Tryz.func305, by kernel_rfl⟩, ⟨⟨Tryz.func306, by kernel_rfl⟩, ⟨⟨Tryz.func323, by kernel_rfl⟩, ⟨⟨Tryz.func324, by kernel_rfl⟩, ⟨⟨Tryz.func325, by kernel_rfl⟩, ⟨⟨Tryz.func326, by kernel_rfl⟩, ⟨⟨Tryz.func343, by kernel_rfl⟩, ⟨⟨Tryz.func344, by kernel_rfl⟩, ⟨⟨Tryz.func345, by kernel_rfl⟩, ⟨⟨Tryz.func348, by kernel_rfl⟩, trivial⟩⟩⟩⟩⟩⟩⟩⟩⟩⟩⟩⟩⟩⟩⟩⟩⟩⟩⟩⟩⟩⟩⟩⟩⟩⟩⟩⟩⟩⟩⟩⟩⟩⟩⟩⟩⟩⟩⟩⟩⟩⟩⟩⟩⟩⟩⟩⟩⟩⟩⟩⟩⟩⟩⟩⟩⟩⟩⟩⟩⟩⟩⟩⟩⟩⟩⟩⟩⟩⟩⟩⟩⟩⟩⟩⟩⟩⟩⟩⟩⟩⟩⟩⟩⟩⟩⟩⟩⟩⟩⟩⟩⟩⟩⟩⟩⟩⟩⟩⟩⟩⟩⟩⟩⟩⟩⟩⟩⟩⟩⟩⟩⟩⟩⟩⟩⟩⟩⟩⟩⟩⟩⟩⟩⟩⟩⟩⟩⟩⟩⟩⟩⟩⟩⟩⟩⟩⟩⟩⟩⟩⟩⟩⟩⟩⟩⟩⟩⟩⟩⟩⟩⟩⟩⟩⟩⟩⟩⟩⟩⟩⟩⟩⟩⟩⟩⟩⟩⟩⟩⟩⟩⟩⟩⟩⟩⟩⟩⟩⟩⟩⟩⟩⟩⟩⟩⟩⟩⟩⟩⟩⟩⟩⟩⟩⟩⟩⟩
theorem zz : ∀ i, tto i (tz i) = (TR i).dflt
  | 0 => rfl
  | 1 => rfl
  | 2 => rfl
  | 3 => rfl
  | 4 => rfl
  | 5 => rfl
  | 6 => rfl
  | 7 => rfl
  | 8 => rfl
  | 9 => rfl
  | 10 => rfl
  | 11 => rfl
  | 12 => rfl
  | 13 => rfl
  | 14 => rfl
  | 15 => rfl
  | 16 => rfl
  | 17 => rfl
  | 18 => rfl
  | 19 => rfl
  | 20 => rfl
  | 21 => rfl
  | 22 => rfl
  | 23 => rfl
  | 24 => rfl
  | 25 => rfl
  | 26 => rfl
  | 27 => rfl
  | 28 => rfl
  | 29 => rfl
  | 30 => rfl
  | 31 => rfl
  | 32 => rfl
  | 33 => rfl
  | 34 => rfl
  | 35 => rfl
  | 36 => rfl
  | 37 => rfl
  | 38 => rfl
  | _ + 39 => rfl
theorem good : Good := ⟨fun _ _ h => look_all ft_all h, fun _ _ h => look_all tb_all h, zz, by kernel_rfl⟩
def lit (l : List UInt8) : ByteArray := ⟨l.toArray⟩
def es : ByteArray := ⟨#[]⟩
/-- What is still to be done from a region on. -/
def conts : Code → List Item → Nat → Option (List Item)
  | .seq a b, k, r => match conts a (.code b :: k) r with
    | some x => some x
    | none => conts b k r
  | .cond _ x y, k, r => match conts x k r with
    | some x => some x
    | none => conts y k r
  | .block l b, k, r => conts b (.inBlock l :: k) r
  | .loop b, k, r => conts b (.inLoop b :: k) r
  | .region i ops draw, k, r => bif Nat.beq i r then some (.code (.region i ops draw) :: k) else none
  | _, _, _ => none
noncomputable def cont (f r : Nat) : List Item := match look f FTl with
  | some fn => match fn.body with
    | some c => (conts c [] r).getD []
    | none => []
  | none => []
end Go.Proofs.YtlffjoabajdfnaaGreat.Ev
