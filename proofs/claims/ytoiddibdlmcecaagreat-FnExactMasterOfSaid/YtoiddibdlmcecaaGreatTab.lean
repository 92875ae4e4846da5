/- The program's types and functions as the evaluator's tables. No condition. -/
import Derived.Test.YtoiddibdlmcecaaGreatEngC
import Derived.Test.YtoiddibdlmcecaaGreatProg
set_option maxRecDepth 100000
namespace Go.Proofs.YtoiddibdlmcecaaGreat.Ev
open Go.Proofs.YtoiddibdlmcecaaGreat.Eng
/-- laws.Interval -/
structure laws_Interval where
  Low : ByteArray
  High : ByteArray
/-- laws.Pair -/
structure laws_Pair where
  Key : ByteArray
  Value : Int
/-- laws.Session -/
structure laws_Session where
  Client : Int
  Seq : Int
  Reply : Int
/-- laws.State -/
structure laws_State where
  Span : laws_Interval
  Pairs : (List laws_Pair)
  Known : (List laws_Session)
  Sealed : Bool
  Cut : ByteArray
/-- laws.Config -/
structure laws_Config where
  Epoch : Int
  Members : (List Int)
  Fresh : Bool
/-- laws.Command -/
structure laws_Command where
  Kind : Int
  Key : ByteArray
  Value : Int
  Old : Int
/-- laws.Entry -/
structure laws_Entry where
  Client : Int
  Seq : Int
  Cmd : laws_Command
/-- laws.Replica -/
structure laws_Replica where
  Conf : laws_Config
  Ready : Bool
  Log : (List laws_Entry)
/-- laws.Message -/
structure laws_Message where
  Kind : Int
  To : Int
  Epoch : Int
  Conf : laws_Config
  Log : (List laws_Entry)
/-- laws.Answer -/
structure laws_Answer where
  Asked : laws_Entry
  Reply : Int
/-- laws.Chain -/
structure laws_Chain where
  Base : laws_State
  Conf : laws_Config
  Nodes : (List laws_Replica)
  Up : (List Bool)
  Bag : (List laws_Message)
  Answers : (List laws_Answer)
/-- laws.Shard -/
structure laws_Shard where
  Live : Bool
  Group : laws_Chain
/-- laws.Route -/
structure laws_Route where
  Number : Int
  Span : laws_Interval
/-- laws.Caller -/
structure laws_Caller where
  Cache : (List laws_Route)
  Seq : Int
  Busy : Bool
  Wish : laws_Command
  Called : Int
/-- laws.Result -/
structure laws_Result where
  Client : Int
  Seq : Int
  Wish : laws_Command
  Reply : Int
  Called : Int
  Returned : Int
/-- laws.Plan -/
structure laws_Plan where
  Kind : Int
  First : Int
  Second : Int
  Key : ByteArray
  From : Int
  To : Int
  Step : Int
/-- laws.Cluster -/
structure laws_Cluster where
  Shards : (List laws_Shard)
  Clients : (List laws_Caller)
  Results : (List laws_Result)
  Work : laws_Plan
  Turn : Int
  Clock : Int
/-- impl.Plan -/
structure impl_Plan where
  Kind : Int
  First : Int
  Second : Int
  Key : ByteArray
  From : Int
  To : Int
  Step : Int
/-- impl.Interval -/
structure impl_Interval where
  Low : ByteArray
  High : ByteArray
/-- impl.Pair -/
structure impl_Pair where
  Key : ByteArray
  Value : Int
/-- impl.Session -/
structure impl_Session where
  Client : Int
  Seq : Int
  Reply : Int
/-- impl.State -/
structure impl_State where
  Span : impl_Interval
  Pairs : (List impl_Pair)
  Known : (List impl_Session)
  Sealed : Bool
  Cut : ByteArray
/-- impl.Config -/
structure impl_Config where
  Epoch : Int
  Members : (List Int)
  Fresh : Bool
/-- impl.Command -/
structure impl_Command where
  Kind : Int
  Key : ByteArray
  Value : Int
  Old : Int
/-- impl.Entry -/
structure impl_Entry where
  Client : Int
  Seq : Int
  Cmd : impl_Command
/-- impl.Replica -/
structure impl_Replica where
  Conf : impl_Config
  Ready : Bool
  Log : (List impl_Entry)
/-- impl.Message -/
structure impl_Message where
  Kind : Int
  To : Int
  Epoch : Int
  Conf : impl_Config
  Log : (List impl_Entry)
/-- impl.Answer -/
structure impl_Answer where
  Asked : impl_Entry
  Reply : Int
/-- impl.Chain -/
structure impl_Chain where
  Base : impl_State
  Conf : impl_Config
  Nodes : (List impl_Replica)
  Up : (List Bool)
  Bag : (List impl_Message)
  Answers : (List impl_Answer)
/-- impl.Shard -/
structure impl_Shard where
  Live : Bool
  Group : impl_Chain
/-- impl.Route -/
structure impl_Route where
  Number : Int
  Span : impl_Interval
/-- impl.Caller -/
structure impl_Caller where
  Cache : (List impl_Route)
  Seq : Int
  Busy : Bool
  Wish : impl_Command
  Called : Int
/-- impl.Result -/
structure impl_Result where
  Client : Int
  Seq : Int
  Wish : impl_Command
  Reply : Int
  Called : Int
  Returned : Int
/-- impl.Cluster -/
structure impl_Cluster where
  Shards : (List impl_Shard)
  Clients : (List impl_Caller)
  Results : (List impl_Result)
  Work : impl_Plan
  Turn : Int
  Clock : Int
/-- impl.Master -/
structure impl_Master where
  Routes : (List impl_Route)
  Shards : Int
  Work : impl_Plan
  Turn : Int
abbrev R_laws_Interval : Ty := (.pair .str (.pair .str .unit))
abbrev Y_laws_Interval : Ty := .st 20 R_laws_Interval
abbrev R_laws_Pair : Ty := (.pair .str (.pair (.int .i64) .unit))
abbrev Y_laws_Pair : Ty := .st 19 R_laws_Pair
abbrev R_laws_Session : Ty := (.pair (.int .i64) (.pair (.int .i64) (.pair (.int .i64) .unit)))
abbrev Y_laws_Session : Ty := .st 18 R_laws_Session
abbrev R_laws_State : Ty := (.pair Y_laws_Interval (.pair (.sl Y_laws_Pair) (.pair (.sl Y_laws_Session) (.pair .bool (.pair .str .unit)))))
abbrev Y_laws_State : Ty := .st 17 R_laws_State
abbrev R_laws_Config : Ty := (.pair (.int .i64) (.pair (.sl (.int .i64)) (.pair .bool .unit)))
abbrev Y_laws_Config : Ty := .st 15 R_laws_Config
abbrev R_laws_Command : Ty := (.pair (.int .i64) (.pair .str (.pair (.int .i64) (.pair (.int .i64) .unit))))
abbrev Y_laws_Command : Ty := .st 13 R_laws_Command
abbrev R_laws_Entry : Ty := (.pair (.int .i64) (.pair (.int .i64) (.pair Y_laws_Command .unit)))
abbrev Y_laws_Entry : Ty := .st 12 R_laws_Entry
abbrev R_laws_Replica : Ty := (.pair Y_laws_Config (.pair .bool (.pair (.sl Y_laws_Entry) .unit)))
abbrev Y_laws_Replica : Ty := .st 16 R_laws_Replica
abbrev R_laws_Message : Ty := (.pair (.int .i64) (.pair (.int .i64) (.pair (.int .i64) (.pair Y_laws_Config (.pair (.sl Y_laws_Entry) .unit)))))
abbrev Y_laws_Message : Ty := .st 14 R_laws_Message
abbrev R_laws_Answer : Ty := (.pair Y_laws_Entry (.pair (.int .i64) .unit))
abbrev Y_laws_Answer : Ty := .st 11 R_laws_Answer
abbrev R_laws_Chain : Ty := (.pair Y_laws_State (.pair Y_laws_Config (.pair (.sl Y_laws_Replica) (.pair (.sl .bool) (.pair (.sl Y_laws_Message) (.pair (.sl Y_laws_Answer) .unit))))))
abbrev Y_laws_Chain : Ty := .st 10 R_laws_Chain
abbrev R_laws_Shard : Ty := (.pair .bool (.pair Y_laws_Chain .unit))
abbrev Y_laws_Shard : Ty := .st 9 R_laws_Shard
abbrev R_laws_Route : Ty := (.pair (.int .i64) (.pair Y_laws_Interval .unit))
abbrev Y_laws_Route : Ty := .st 22 R_laws_Route
abbrev R_laws_Caller : Ty := (.pair (.sl Y_laws_Route) (.pair (.int .i64) (.pair .bool (.pair Y_laws_Command (.pair (.int .i64) .unit)))))
abbrev Y_laws_Caller : Ty := .st 21 R_laws_Caller
abbrev R_laws_Result : Ty := (.pair (.int .i64) (.pair (.int .i64) (.pair Y_laws_Command (.pair (.int .i64) (.pair (.int .i64) (.pair (.int .i64) .unit))))))
abbrev Y_laws_Result : Ty := .st 23 R_laws_Result
abbrev R_laws_Plan : Ty := (.pair (.int .i64) (.pair (.int .i64) (.pair (.int .i64) (.pair .str (.pair (.int .i64) (.pair (.int .i64) (.pair (.int .i64) .unit)))))))
abbrev Y_laws_Plan : Ty := .st 25 R_laws_Plan
abbrev R_laws_Cluster : Ty := (.pair (.sl Y_laws_Shard) (.pair (.sl Y_laws_Caller) (.pair (.sl Y_laws_Result) (.pair Y_laws_Plan (.pair (.int .i64) (.pair (.int .i64) .unit))))))
abbrev Y_laws_Cluster : Ty := .st 27 R_laws_Cluster
abbrev R_impl_Plan : Ty := (.pair (.int .i64) (.pair (.int .i64) (.pair (.int .i64) (.pair .str (.pair (.int .i64) (.pair (.int .i64) (.pair (.int .i64) .unit)))))))
abbrev Y_impl_Plan : Ty := .st 28 R_impl_Plan
abbrev R_impl_Interval : Ty := (.pair .str (.pair .str .unit))
abbrev Y_impl_Interval : Ty := .st 42 R_impl_Interval
abbrev R_impl_Pair : Ty := (.pair .str (.pair (.int .i64) .unit))
abbrev Y_impl_Pair : Ty := .st 41 R_impl_Pair
abbrev R_impl_Session : Ty := (.pair (.int .i64) (.pair (.int .i64) (.pair (.int .i64) .unit)))
abbrev Y_impl_Session : Ty := .st 40 R_impl_Session
abbrev R_impl_State : Ty := (.pair Y_impl_Interval (.pair (.sl Y_impl_Pair) (.pair (.sl Y_impl_Session) (.pair .bool (.pair .str .unit)))))
abbrev Y_impl_State : Ty := .st 39 R_impl_State
abbrev R_impl_Config : Ty := (.pair (.int .i64) (.pair (.sl (.int .i64)) (.pair .bool .unit)))
abbrev Y_impl_Config : Ty := .st 37 R_impl_Config
abbrev R_impl_Command : Ty := (.pair (.int .i64) (.pair .str (.pair (.int .i64) (.pair (.int .i64) .unit))))
abbrev Y_impl_Command : Ty := .st 35 R_impl_Command
abbrev R_impl_Entry : Ty := (.pair (.int .i64) (.pair (.int .i64) (.pair Y_impl_Command .unit)))
abbrev Y_impl_Entry : Ty := .st 34 R_impl_Entry
abbrev R_impl_Replica : Ty := (.pair Y_impl_Config (.pair .bool (.pair (.sl Y_impl_Entry) .unit)))
abbrev Y_impl_Replica : Ty := .st 38 R_impl_Replica
abbrev R_impl_Message : Ty := (.pair (.int .i64) (.pair (.int .i64) (.pair (.int .i64) (.pair Y_impl_Config (.pair (.sl Y_impl_Entry) .unit)))))
abbrev Y_impl_Message : Ty := .st 36 R_impl_Message
abbrev R_impl_Answer : Ty := (.pair Y_impl_Entry (.pair (.int .i64) .unit))
abbrev Y_impl_Answer : Ty := .st 33 R_impl_Answer
abbrev R_impl_Chain : Ty := (.pair Y_impl_State (.pair Y_impl_Config (.pair (.sl Y_impl_Replica) (.pair (.sl .bool) (.pair (.sl Y_impl_Message) (.pair (.sl Y_impl_Answer) .unit))))))
abbrev Y_impl_Chain : Ty := .st 32 R_impl_Chain
abbrev R_impl_Shard : Ty := (.pair .bool (.pair Y_impl_Chain .unit))
abbrev Y_impl_Shard : Ty := .st 31 R_impl_Shard
abbrev R_impl_Route : Ty := (.pair (.int .i64) (.pair Y_impl_Interval .unit))
abbrev Y_impl_Route : Ty := .st 44 R_impl_Route
abbrev R_impl_Caller : Ty := (.pair (.sl Y_impl_Route) (.pair (.int .i64) (.pair .bool (.pair Y_impl_Command (.pair (.int .i64) .unit)))))
abbrev Y_impl_Caller : Ty := .st 43 R_impl_Caller
abbrev R_impl_Result : Ty := (.pair (.int .i64) (.pair (.int .i64) (.pair Y_impl_Command (.pair (.int .i64) (.pair (.int .i64) (.pair (.int .i64) .unit))))))
abbrev Y_impl_Result : Ty := .st 45 R_impl_Result
abbrev R_impl_Cluster : Ty := (.pair (.sl Y_impl_Shard) (.pair (.sl Y_impl_Caller) (.pair (.sl Y_impl_Result) (.pair Y_impl_Plan (.pair (.int .i64) (.pair (.int .i64) .unit))))))
abbrev Y_impl_Cluster : Ty := .st 47 R_impl_Cluster
abbrev R_impl_Master : Ty := (.pair (.sl Y_impl_Route) (.pair (.int .i64) (.pair Y_impl_Plan (.pair (.int .i64) .unit))))
abbrev Y_impl_Master : Ty := .st 49 R_impl_Master
def TT : Nat → Type
  | 0 => Unit
  | 1 => Unit
  | 2 => Unit
  | 3 => Unit
  | 4 => Unit
  | 5 => Unit
  | 6 => Unit
  | 7 => Unit
  | 8 => Unit
  | 9 => laws_Shard
  | 10 => laws_Chain
  | 11 => laws_Answer
  | 12 => laws_Entry
  | 13 => laws_Command
  | 14 => laws_Message
  | 15 => laws_Config
  | 16 => laws_Replica
  | 17 => laws_State
  | 18 => laws_Session
  | 19 => laws_Pair
  | 20 => laws_Interval
  | 21 => laws_Caller
  | 22 => laws_Route
  | 23 => laws_Result
  | 24 => Unit
  | 25 => laws_Plan
  | 26 => Unit
  | 27 => laws_Cluster
  | 28 => impl_Plan
  | 29 => Unit
  | 30 => Unit
  | 31 => impl_Shard
  | 32 => impl_Chain
  | 33 => impl_Answer
  | 34 => impl_Entry
  | 35 => impl_Command
  | 36 => impl_Message
  | 37 => impl_Config
  | 38 => impl_Replica
  | 39 => impl_State
  | 40 => impl_Session
  | 41 => impl_Pair
  | 42 => impl_Interval
  | 43 => impl_Caller
  | 44 => impl_Route
  | 45 => impl_Result
  | 46 => Unit
  | 47 => impl_Cluster
  | 48 => Unit
  | 49 => impl_Master
  | _ + 50 => Unit
def TR : Nat → Ty
  | 0 => .unit
  | 1 => .unit
  | 2 => .unit
  | 3 => .unit
  | 4 => .unit
  | 5 => .unit
  | 6 => .unit
  | 7 => .unit
  | 8 => .unit
  | 9 => R_laws_Shard
  | 10 => R_laws_Chain
  | 11 => R_laws_Answer
  | 12 => R_laws_Entry
  | 13 => R_laws_Command
  | 14 => R_laws_Message
  | 15 => R_laws_Config
  | 16 => R_laws_Replica
  | 17 => R_laws_State
  | 18 => R_laws_Session
  | 19 => R_laws_Pair
  | 20 => R_laws_Interval
  | 21 => R_laws_Caller
  | 22 => R_laws_Route
  | 23 => R_laws_Result
  | 24 => .unit
  | 25 => R_laws_Plan
  | 26 => .unit
  | 27 => R_laws_Cluster
  | 28 => R_impl_Plan
  | 29 => .unit
  | 30 => .unit
  | 31 => R_impl_Shard
  | 32 => R_impl_Chain
  | 33 => R_impl_Answer
  | 34 => R_impl_Entry
  | 35 => R_impl_Command
  | 36 => R_impl_Message
  | 37 => R_impl_Config
  | 38 => R_impl_Replica
  | 39 => R_impl_State
  | 40 => R_impl_Session
  | 41 => R_impl_Pair
  | 42 => R_impl_Interval
  | 43 => R_impl_Caller
  | 44 => R_impl_Route
  | 45 => R_impl_Result
  | 46 => .unit
  | 47 => R_impl_Cluster
  | 48 => .unit
  | 49 => R_impl_Master
  | _ + 50 => .unit
def tto : ∀ i, TT i → (TR i).den TT
  | 0 => fun _ => ()
  | 1 => fun _ => ()
  | 2 => fun _ => ()
  | 3 => fun _ => ()
  | 4 => fun _ => ()
  | 5 => fun _ => ()
  | 6 => fun _ => ()
  | 7 => fun _ => ()
  | 8 => fun _ => ()
  | 9 => fun x => (x.Live, x.Group, ())
  | 10 => fun x => (x.Base, x.Conf, x.Nodes, x.Up, x.Bag, x.Answers, ())
  | 11 => fun x => (x.Asked, x.Reply, ())
  | 12 => fun x => (x.Client, x.Seq, x.Cmd, ())
  | 13 => fun x => (x.Kind, x.Key, x.Value, x.Old, ())
  | 14 => fun x => (x.Kind, x.To, x.Epoch, x.Conf, x.Log, ())
  | 15 => fun x => (x.Epoch, x.Members, x.Fresh, ())
  | 16 => fun x => (x.Conf, x.Ready, x.Log, ())
  | 17 => fun x => (x.Span, x.Pairs, x.Known, x.Sealed, x.Cut, ())
  | 18 => fun x => (x.Client, x.Seq, x.Reply, ())
  | 19 => fun x => (x.Key, x.Value, ())
  | 20 => fun x => (x.Low, x.High, ())
  | 21 => fun x => (x.Cache, x.Seq, x.Busy, x.Wish, x.Called, ())
  | 22 => fun x => (x.Number, x.Span, ())
  | 23 => fun x => (x.Client, x.Seq, x.Wish, x.Reply, x.Called, x.Returned, ())
  | 24 => fun _ => ()
  | 25 => fun x => (x.Kind, x.First, x.Second, x.Key, x.From, x.To, x.Step, ())
  | 26 => fun _ => ()
  | 27 => fun x => (x.Shards, x.Clients, x.Results, x.Work, x.Turn, x.Clock, ())
  | 28 => fun x => (x.Kind, x.First, x.Second, x.Key, x.From, x.To, x.Step, ())
  | 29 => fun _ => ()
  | 30 => fun _ => ()
  | 31 => fun x => (x.Live, x.Group, ())
  | 32 => fun x => (x.Base, x.Conf, x.Nodes, x.Up, x.Bag, x.Answers, ())
  | 33 => fun x => (x.Asked, x.Reply, ())
  | 34 => fun x => (x.Client, x.Seq, x.Cmd, ())
  | 35 => fun x => (x.Kind, x.Key, x.Value, x.Old, ())
  | 36 => fun x => (x.Kind, x.To, x.Epoch, x.Conf, x.Log, ())
  | 37 => fun x => (x.Epoch, x.Members, x.Fresh, ())
  | 38 => fun x => (x.Conf, x.Ready, x.Log, ())
  | 39 => fun x => (x.Span, x.Pairs, x.Known, x.Sealed, x.Cut, ())
  | 40 => fun x => (x.Client, x.Seq, x.Reply, ())
  | 41 => fun x => (x.Key, x.Value, ())
  | 42 => fun x => (x.Low, x.High, ())
  | 43 => fun x => (x.Cache, x.Seq, x.Busy, x.Wish, x.Called, ())
  | 44 => fun x => (x.Number, x.Span, ())
  | 45 => fun x => (x.Client, x.Seq, x.Wish, x.Reply, x.Called, x.Returned, ())
  | 46 => fun _ => ()
  | 47 => fun x => (x.Shards, x.Clients, x.Results, x.Work, x.Turn, x.Clock, ())
  | 48 => fun _ => ()
  | 49 => fun x => (x.Routes, x.Shards, x.Work, x.Turn, ())
  | _ + 50 => fun _ => ()
def tof : ∀ i, (TR i).den TT → TT i
  | 0 => fun _ => ()
  | 1 => fun _ => ()
  | 2 => fun _ => ()
  | 3 => fun _ => ()
  | 4 => fun _ => ()
  | 5 => fun _ => ()
  | 6 => fun _ => ()
  | 7 => fun _ => ()
  | 8 => fun _ => ()
  | 9 => fun x => ⟨x.1, x.2.1⟩
  | 10 => fun x => ⟨x.1, x.2.1, x.2.2.1, x.2.2.2.1, x.2.2.2.2.1, x.2.2.2.2.2.1⟩
  | 11 => fun x => ⟨x.1, x.2.1⟩
  | 12 => fun x => ⟨x.1, x.2.1, x.2.2.1⟩
  | 13 => fun x => ⟨x.1, x.2.1, x.2.2.1, x.2.2.2.1⟩
  | 14 => fun x => ⟨x.1, x.2.1, x.2.2.1, x.2.2.2.1, x.2.2.2.2.1⟩
  | 15 => fun x => ⟨x.1, x.2.1, x.2.2.1⟩
  | 16 => fun x => ⟨x.1, x.2.1, x.2.2.1⟩
  | 17 => fun x => ⟨x.1, x.2.1, x.2.2.1, x.2.2.2.1, x.2.2.2.2.1⟩
  | 18 => fun x => ⟨x.1, x.2.1, x.2.2.1⟩
  | 19 => fun x => ⟨x.1, x.2.1⟩
  | 20 => fun x => ⟨x.1, x.2.1⟩
  | 21 => fun x => ⟨x.1, x.2.1, x.2.2.1, x.2.2.2.1, x.2.2.2.2.1⟩
  | 22 => fun x => ⟨x.1, x.2.1⟩
  | 23 => fun x => ⟨x.1, x.2.1, x.2.2.1, x.2.2.2.1, x.2.2.2.2.1, x.2.2.2.2.2.1⟩
  | 24 => fun _ => ()
  | 25 => fun x => ⟨x.1, x.2.1, x.2.2.1, x.2.2.2.1, x.2.2.2.2.1, x.2.2.2.2.2.1, x.2.2.2.2.2.2.1⟩
  | 26 => fun _ => ()
  | 27 => fun x => ⟨x.1, x.2.1, x.2.2.1, x.2.2.2.1, x.2.2.2.2.1, x.2.2.2.2.2.1⟩
  | 28 => fun x => ⟨x.1, x.2.1, x.2.2.1, x.2.2.2.1, x.2.2.2.2.1, x.2.2.2.2.2.1, x.2.2.2.2.2.2.1⟩
  | 29 => fun _ => ()
  | 30 => fun _ => ()
  | 31 => fun x => ⟨x.1, x.2.1⟩
  | 32 => fun x => ⟨x.1, x.2.1, x.2.2.1, x.2.2.2.1, x.2.2.2.2.1, x.2.2.2.2.2.1⟩
  | 33 => fun x => ⟨x.1, x.2.1⟩
  | 34 => fun x => ⟨x.1, x.2.1, x.2.2.1⟩
  | 35 => fun x => ⟨x.1, x.2.1, x.2.2.1, x.2.2.2.1⟩
  | 36 => fun x => ⟨x.1, x.2.1, x.2.2.1, x.2.2.2.1, x.2.2.2.2.1⟩
  | 37 => fun x => ⟨x.1, x.2.1, x.2.2.1⟩
  | 38 => fun x => ⟨x.1, x.2.1, x.2.2.1⟩
  | 39 => fun x => ⟨x.1, x.2.1, x.2.2.1, x.2.2.2.1, x.2.2.2.2.1⟩
  | 40 => fun x => ⟨x.1, x.2.1, x.2.2.1⟩
  | 41 => fun x => ⟨x.1, x.2.1⟩
  | 42 => fun x => ⟨x.1, x.2.1⟩
  | 43 => fun x => ⟨x.1, x.2.1, x.2.2.1, x.2.2.2.1, x.2.2.2.2.1⟩
  | 44 => fun x => ⟨x.1, x.2.1⟩
  | 45 => fun x => ⟨x.1, x.2.1, x.2.2.1, x.2.2.2.1, x.2.2.2.2.1, x.2.2.2.2.2.1⟩
  | 46 => fun _ => ()
  | 47 => fun x => ⟨x.1, x.2.1, x.2.2.1, x.2.2.2.1, x.2.2.2.2.1, x.2.2.2.2.2.1⟩
  | 48 => fun _ => ()
  | 49 => fun x => ⟨x.1, x.2.1, x.2.2.1, x.2.2.2.1⟩
  | _ + 50 => fun _ => ()
def z_laws_Interval : laws_Interval := ⟨⟨#[]⟩, ⟨#[]⟩⟩
def z_laws_Pair : laws_Pair := ⟨⟨#[]⟩, (0 : Int)⟩
def z_laws_Session : laws_Session := ⟨(0 : Int), (0 : Int), (0 : Int)⟩
def z_laws_State : laws_State := ⟨z_laws_Interval, [], [], false, ⟨#[]⟩⟩
def z_laws_Config : laws_Config := ⟨(0 : Int), [], false⟩
def z_laws_Command : laws_Command := ⟨(0 : Int), ⟨#[]⟩, (0 : Int), (0 : Int)⟩
def z_laws_Entry : laws_Entry := ⟨(0 : Int), (0 : Int), z_laws_Command⟩
def z_laws_Replica : laws_Replica := ⟨z_laws_Config, false, []⟩
def z_laws_Message : laws_Message := ⟨(0 : Int), (0 : Int), (0 : Int), z_laws_Config, []⟩
def z_laws_Answer : laws_Answer := ⟨z_laws_Entry, (0 : Int)⟩
def z_laws_Chain : laws_Chain := ⟨z_laws_State, z_laws_Config, [], [], [], []⟩
def z_laws_Shard : laws_Shard := ⟨false, z_laws_Chain⟩
def z_laws_Route : laws_Route := ⟨(0 : Int), z_laws_Interval⟩
def z_laws_Caller : laws_Caller := ⟨[], (0 : Int), false, z_laws_Command, (0 : Int)⟩
def z_laws_Result : laws_Result := ⟨(0 : Int), (0 : Int), z_laws_Command, (0 : Int), (0 : Int), (0 : Int)⟩
def z_laws_Plan : laws_Plan := ⟨(0 : Int), (0 : Int), (0 : Int), ⟨#[]⟩, (0 : Int), (0 : Int), (0 : Int)⟩
def z_laws_Cluster : laws_Cluster := ⟨[], [], [], z_laws_Plan, (0 : Int), (0 : Int)⟩
def z_impl_Plan : impl_Plan := ⟨(0 : Int), (0 : Int), (0 : Int), ⟨#[]⟩, (0 : Int), (0 : Int), (0 : Int)⟩
def z_impl_Interval : impl_Interval := ⟨⟨#[]⟩, ⟨#[]⟩⟩
def z_impl_Pair : impl_Pair := ⟨⟨#[]⟩, (0 : Int)⟩
def z_impl_Session : impl_Session := ⟨(0 : Int), (0 : Int), (0 : Int)⟩
def z_impl_State : impl_State := ⟨z_impl_Interval, [], [], false, ⟨#[]⟩⟩
def z_impl_Config : impl_Config := ⟨(0 : Int), [], false⟩
def z_impl_Command : impl_Command := ⟨(0 : Int), ⟨#[]⟩, (0 : Int), (0 : Int)⟩
def z_impl_Entry : impl_Entry := ⟨(0 : Int), (0 : Int), z_impl_Command⟩
def z_impl_Replica : impl_Replica := ⟨z_impl_Config, false, []⟩
def z_impl_Message : impl_Message := ⟨(0 : Int), (0 : Int), (0 : Int), z_impl_Config, []⟩
def z_impl_Answer : impl_Answer := ⟨z_impl_Entry, (0 : Int)⟩
def z_impl_Chain : impl_Chain := ⟨z_impl_State, z_impl_Config, [], [], [], []⟩
def z_impl_Shard : impl_Shard := ⟨false, z_impl_Chain⟩
def z_impl_Route : impl_Route := ⟨(0 : Int), z_impl_Interval⟩
def z_impl_Caller : impl_Caller := ⟨[], (0 : Int), false, z_impl_Command, (0 : Int)⟩
def z_impl_Result : impl_Result := ⟨(0 : Int), (0 : Int), z_impl_Command, (0 : Int), (0 : Int), (0 : Int)⟩
def z_impl_Cluster : impl_Cluster := ⟨[], [], [], z_impl_Plan, (0 : Int), (0 : Int)⟩
def z_impl_Master : impl_Master := ⟨[], (0 : Int), z_impl_Plan, (0 : Int)⟩
def tz : ∀ i, TT i
  | 0 => ()
  | 1 => ()
  | 2 => ()
  | 3 => ()
  | 4 => ()
  | 5 => ()
  | 6 => ()
  | 7 => ()
  | 8 => ()
  | 9 => z_laws_Shard
  | 10 => z_laws_Chain
  | 11 => z_laws_Answer
  | 12 => z_laws_Entry
  | 13 => z_laws_Command
  | 14 => z_laws_Message
  | 15 => z_laws_Config
  | 16 => z_laws_Replica
  | 17 => z_laws_State
  | 18 => z_laws_Session
  | 19 => z_laws_Pair
  | 20 => z_laws_Interval
  | 21 => z_laws_Caller
  | 22 => z_laws_Route
  | 23 => z_laws_Result
  | 24 => ()
  | 25 => z_laws_Plan
  | 26 => ()
  | 27 => z_laws_Cluster
  | 28 => z_impl_Plan
  | 29 => ()
  | 30 => ()
  | 31 => z_impl_Shard
  | 32 => z_impl_Chain
  | 33 => z_impl_Answer
  | 34 => z_impl_Entry
  | 35 => z_impl_Command
  | 36 => z_impl_Message
  | 37 => z_impl_Config
  | 38 => z_impl_Replica
  | 39 => z_impl_State
  | 40 => z_impl_Session
  | 41 => z_impl_Pair
  | 42 => z_impl_Interval
  | 43 => z_impl_Caller
  | 44 => z_impl_Route
  | 45 => z_impl_Result
  | 46 => ()
  | 47 => z_impl_Cluster
  | 48 => ()
  | 49 => z_impl_Master
  | _ + 50 => ()
theorem t1 : ∀ i (x : (TR i).den TT), tto i (tof i x) = x
  | 0 => fun _ => rfl
  | 1 => fun _ => rfl
  | 2 => fun _ => rfl
  | 3 => fun _ => rfl
  | 4 => fun _ => rfl
  | 5 => fun _ => rfl
  | 6 => fun _ => rfl
  | 7 => fun _ => rfl
  | 8 => fun _ => rfl
  | 9 => fun _ => rfl
  | 10 => fun _ => rfl
  | 11 => fun _ => rfl
  | 12 => fun _ => rfl
  | 13 => fun _ => rfl
  | 14 => fun _ => rfl
  | 15 => fun _ => rfl
  | 16 => fun _ => rfl
  | 17 => fun _ => rfl
  | 18 => fun _ => rfl
  | 19 => fun _ => rfl
  | 20 => fun _ => rfl
  | 21 => fun _ => rfl
  | 22 => fun _ => rfl
  | 23 => fun _ => rfl
  | 24 => fun _ => rfl
  | 25 => fun _ => rfl
  | 26 => fun _ => rfl
  | 27 => fun _ => rfl
  | 28 => fun _ => rfl
  | 29 => fun _ => rfl
  | 30 => fun _ => rfl
  | 31 => fun _ => rfl
  | 32 => fun _ => rfl
  | 33 => fun _ => rfl
  | 34 => fun _ => rfl
  | 35 => fun _ => rfl
  | 36 => fun _ => rfl
  | 37 => fun _ => rfl
  | 38 => fun _ => rfl
  | 39 => fun _ => rfl
  | 40 => fun _ => rfl
  | 41 => fun _ => rfl
  | 42 => fun _ => rfl
  | 43 => fun _ => rfl
  | 44 => fun _ => rfl
  | 45 => fun _ => rfl
  | 46 => fun _ => rfl
  | 47 => fun _ => rfl
  | 48 => fun _ => rfl
  | 49 => fun _ => rfl
  | _ + 50 => fun _ => rfl
theorem t2 : ∀ i (x : TT i), tof i (tto i x) = x
  | 0 => fun _ => rfl
  | 1 => fun _ => rfl
  | 2 => fun _ => rfl
  | 3 => fun _ => rfl
  | 4 => fun _ => rfl
  | 5 => fun _ => rfl
  | 6 => fun _ => rfl
  | 7 => fun _ => rfl
  | 8 => fun _ => rfl
  | 9 => fun _ => rfl
  | 10 => fun _ => rfl
  | 11 => fun _ => rfl
  | 12 => fun _ => rfl
  | 13 => fun _ => rfl
  | 14 => fun _ => rfl
  | 15 => fun _ => rfl
  | 16 => fun _ => rfl
  | 17 => fun _ => rfl
  | 18 => fun _ => rfl
  | 19 => fun _ => rfl
  | 20 => fun _ => rfl
  | 21 => fun _ => rfl
  | 22 => fun _ => rfl
  | 23 => fun _ => rfl
  | 24 => fun _ => rfl
  | 25 => fun _ => rfl
  | 26 => fun _ => rfl
  | 27 => fun _ => rfl
  | 28 => fun _ => rfl
  | 29 => fun _ => rfl
  | 30 => fun _ => rfl
  | 31 => fun _ => rfl
  | 32 => fun _ => rfl
  | 33 => fun _ => rfl
  | 34 => fun _ => rfl
  | 35 => fun _ => rfl
  | 36 => fun _ => rfl
  | 37 => fun _ => rfl
  | 38 => fun _ => rfl
  | 39 => fun _ => rfl
  | 40 => fun _ => rfl
  | 41 => fun _ => rfl
  | 42 => fun _ => rfl
  | 43 => fun _ => rfl
  | 44 => fun _ => rfl
  | 45 => fun _ => rfl
  | 46 => fun _ => rfl
  | 47 => fun _ => rfl
  | 48 => fun _ => rfl
  | 49 => fun _ => rfl
  | _ + 50 => fun _ => rfl
instance : Tys := ⟨TT, TR, tto, tof, tz, t1, t2⟩
def look {α : Type} (k : Nat) : List (Nat × α) → Option α
  | [] => none
  | x :: l => bif Nat.beq x.1 k then some x.2 else look k l
noncomputable def FTl : List (Nat × Func) := [(4, Tryz.f4), (5, Tryz.f5), (7, Tryz.f7), (10, Tryz.f10), (11, Tryz.f11), (12, Tryz.f12), (13, Tryz.f13), (14, Tryz.f14), (15, Tryz.f15), (16, Tryz.f16), (17, Tryz.f17), (18, Tryz.f18), (19, Tryz.f19), (20, Tryz.f20), (21, Tryz.f21), (22, Tryz.f22), (23, Tryz.f23), (24, Tryz.f24), (25, Tryz.f25), (26, Tryz.f26), (27, Tryz.f27), (28, Tryz.f28), (29, Tryz.f29), (30, Tryz.f30), (31, Tryz.f31), (32, Tryz.f32), (33, Tryz.f33), (34, Tryz.f34), (35, Tryz.f35), (36, Tryz.f36), (37, Tryz.f37), (38, Tryz.f38), (39, Tryz.f39), (40, Tryz.f40), (41, Tryz.f41), (42, Tryz.f42), (43, Tryz.f43), (44, Tryz.f44), (45, Tryz.f45), (46, Tryz.f46), (47, Tryz.f47), (48, Tryz.f48), (49, Tryz.f49), (50, Tryz.f50), (51, Tryz.f51), (52, Tryz.f52), (53, Tryz.f53), (54, Tryz.f54), (55, Tryz.f55), (56, Tryz.f56), (57, Tryz.f57), (58, Tryz.f58), (59, Tryz.f59), (60, Tryz.f60), (61, Tryz.f61), (62, Tryz.f62), (63, Tryz.f63), (64, Tryz.f64), (65, Tryz.f65), (66, Tryz.f66), (67, Tryz.f67), (68, Tryz.f68), (69, Tryz.f69), (70, Tryz.f70), (71, Tryz.f71), (72, Tryz.f72), (73, Tryz.f73), (74, Tryz.f74), (75, Tryz.f75), (76, Tryz.f76), (77, Tryz.f77), (78, Tryz.f78), (79, Tryz.f79), (80, Tryz.f80), (81, Tryz.f81), (82, Tryz.f82), (83, Tryz.f83), (84, Tryz.f84), (85, Tryz.f85), (86, Tryz.f86), (87, Tryz.f87), (88, Tryz.f88), (89, Tryz.f89), (90, Tryz.f90), (91, Tryz.f91), (92, Tryz.f92), (93, Tryz.f93), (94, Tryz.f94), (95, Tryz.f95), (96, Tryz.f96), (97, Tryz.f97), (98, Tryz.f98), (99, Tryz.f99), (100, Tryz.f100), (101, Tryz.f101), (102, Tryz.f102), (103, Tryz.f103), (104, Tryz.f104), (105, Tryz.f105), (106, Tryz.f106), (107, Tryz.f107), (108, Tryz.f108), (109, Tryz.f109), (110, Tryz.f110), (111, Tryz.f111), (112, Tryz.f112), (113, Tryz.f113), (114, Tryz.f114), (115, Tryz.f115), (116, Tryz.f116), (117, Tryz.f117), (118, Tryz.f118), (119, Tryz.f119), (120, Tryz.f120), (121, Tryz.f121), (122, Tryz.f122), (123, Tryz.f123), (124, Tryz.f124), (125, Tryz.f125), (126, Tryz.f126), (127, Tryz.f127), (128, Tryz.f128), (129, Tryz.f129), (130, Tryz.f130), (131, Tryz.f131), (132, Tryz.f132), (133, Tryz.f133), (134, Tryz.f134), (135, Tryz.f135), (136, Tryz.f136), (137, Tryz.f137), (138, Tryz.f138), (139, Tryz.f139), (140, Tryz.f140), (141, Tryz.f141), (142, Tryz.f142), (143, Tryz.f143), (144, Tryz.f144), (145, Tryz.f145), (146, Tryz.f146), (147, Tryz.f147), (148, Tryz.f148), (149, Tryz.f149), (150, Tryz.f150), (151, Tryz.f151), (152, Tryz.f152), (153, Tryz.f153), (154, Tryz.f154), (155, Tryz.f155), (156, Tryz.f156), (157, Tryz.f157), (158, Tryz.f158), (159, Tryz.f159), (160, Tryz.f160), (161, Tryz.f161), (162, Tryz.f162), (163, Tryz.f163), (164, Tryz.f164), (165, Tryz.f165), (166, Tryz.f166), (167, Tryz.f167), (168, Tryz.f168), (169, Tryz.f169), (170, Tryz.f170), (171, Tryz.f171), (172, Tryz.f172), (173, Tryz.f173), (174, Tryz.f174), (175, Tryz.f175), (176, Tryz.f176), (177, Tryz.f177), (178, Tryz.f178), (179, Tryz.f179), (180, Tryz.f180), (181, Tryz.f181), (182, Tryz.f182), (183, Tryz.f183), (184, Tryz.f184), (185, Tryz.f185), (186, Tryz.f186), (187, Tryz.f187), (188, Tryz.f188), (189, Tryz.f189), (190, Tryz.f190), (191, Tryz.f191), (192, Tryz.f192), (193, Tryz.f193), (194, Tryz.f194)]
def TBl : List (Nat × TI) := [(3, ⟨(.int .i64), 0⟩), (4, ⟨.bool, 0⟩), (5, ⟨(.int .u8), 0⟩), (9, ⟨.str, 0⟩), (22, ⟨(.sl Y_laws_Shard), 248⟩), (23, ⟨(.sl Y_laws_Caller), 88⟩), (24, ⟨(.sl Y_laws_Result), 80⟩), (26, ⟨Y_laws_Plan, 0⟩), (28, ⟨Y_laws_Cluster, 0⟩), (30, ⟨Y_impl_Plan, 0⟩), (35, ⟨(.sl Y_impl_Shard), 248⟩), (36, ⟨(.sl Y_impl_Caller), 88⟩), (37, ⟨(.sl Y_impl_Result), 80⟩), (39, ⟨Y_impl_Cluster, 0⟩), (44, ⟨(.sl Y_impl_Route), 40⟩), (46, ⟨Y_impl_Master, 0⟩), (73, ⟨Y_laws_Interval, 0⟩), (74, ⟨(.sl Y_laws_Pair), 24⟩), (75, ⟨(.sl Y_laws_Session), 24⟩), (77, ⟨Y_laws_State, 0⟩), (78, ⟨(.sl (.int .i64)), 8⟩), (80, ⟨Y_laws_Config, 0⟩), (81, ⟨(.sl Y_laws_Replica), 72⟩), (82, ⟨(.sl .bool), 1⟩), (83, ⟨(.sl Y_laws_Message), 88⟩), (84, ⟨(.sl Y_laws_Answer), 64⟩), (86, ⟨Y_laws_Chain, 0⟩), (88, ⟨Y_laws_Shard, 0⟩), (90, ⟨(.sl Y_laws_Route), 40⟩), (92, ⟨Y_laws_Command, 0⟩), (94, ⟨Y_laws_Caller, 0⟩), (97, ⟨Y_laws_Result, 0⟩), (101, ⟨Y_impl_Interval, 0⟩), (102, ⟨(.sl Y_impl_Pair), 24⟩), (103, ⟨(.sl Y_impl_Session), 24⟩), (105, ⟨Y_impl_State, 0⟩), (106, ⟨Y_impl_Config, 0⟩), (107, ⟨(.sl Y_impl_Replica), 72⟩), (108, ⟨(.sl Y_impl_Message), 88⟩), (109, ⟨(.sl Y_impl_Answer), 64⟩), (111, ⟨Y_impl_Chain, 0⟩), (113, ⟨Y_impl_Shard, 0⟩), (115, ⟨Y_impl_Command, 0⟩), (117, ⟨Y_impl_Caller, 0⟩), (120, ⟨Y_impl_Result, 0⟩), (132, ⟨Y_impl_Route, 0⟩), (152, ⟨(.sl Y_impl_Entry), 56⟩), (154, ⟨Y_impl_Replica, 0⟩), (156, ⟨Y_impl_Message, 0⟩), (159, ⟨Y_impl_Entry, 0⟩), (161, ⟨Y_impl_Answer, 0⟩), (163, ⟨(.sl Y_impl_Interval), 32⟩), (175, ⟨(.sl (.int .u8)), 1⟩), (177, ⟨Y_impl_Pair, 0⟩), (179, ⟨Y_impl_Session, 0⟩), (188, ⟨Y_laws_Route, 0⟩), (218, ⟨(.sl Y_laws_Entry), 56⟩), (220, ⟨Y_laws_Replica, 0⟩), (223, ⟨Y_laws_Message, 0⟩), (226, ⟨Y_laws_Entry, 0⟩), (228, ⟨Y_laws_Answer, 0⟩), (243, ⟨(.int .u64), 0⟩), (245, ⟨Y_laws_Pair, 0⟩), (250, ⟨Y_laws_Session, 0⟩)]
def SGl : List (Nat × Sig) := [(4, ⟨[.bor], (.pair .bool .unit), .lit⟩),
  (5, ⟨[.bor, .bor], (.pair (.int .i64) .unit), .lit⟩),
  (7, ⟨[.bor], (.pair Y_impl_Cluster .unit), (.pair (.pair (.own (.pair .lit (.pair (.pair (.pair .lit (.pair (.own .lit) (.pair (.own .lit) .lit))) (.pair (.pair .lit (.pair (.own .lit) .lit)) (.pair (.own (.pair (.pair .lit (.pair (.own .lit) .lit)) (.pair .lit (.pair (.own .lit) .lit)))) (.pair (.own .lit) (.pair (.own (.pair .lit (.pair .lit (.pair .lit (.pair (.pair .lit (.pair (.own .lit) .lit)) (.pair (.own .lit) .lit)))))) (.pair (.own .lit) .lit)))))) .lit))) (.pair (.own (.pair (.own .lit) .lit)) (.pair (.own .lit) .lit))) .lit)⟩),
  (10, ⟨[.bor, .bor], (.pair .bool .unit), .lit⟩),
  (11, ⟨[.bor], (.pair Y_impl_Master .unit), (.pair (.pair (.own .lit) .lit) .lit)⟩),
  (12, ⟨[.bor], (.pair Y_impl_Master .unit), (.pair (.pair (.own .lit) .lit) .lit)⟩),
  (13, ⟨[.bor, .bor], (.pair .bool .unit), .lit⟩),
  (14, ⟨[.own, .bor], (.pair (.int .i64) .unit), .lit⟩),
  (15, ⟨[.io, .bor], (.pair (.int .i64) (.tc Y_impl_Master .unit)), (.pair .lit (.pair (.pair (.own .lit) .lit) .lit))⟩),
  (16, ⟨[.bor, .bor], (.pair (.int .i64) .unit), .lit⟩),
  (17, ⟨[.bor, .bor], (.pair (.int .i64) .unit), .lit⟩),
  (18, ⟨[.bor, .bor], (.pair (.int .i64) .unit), .lit⟩),
  (19, ⟨[.bor, .bor], (.pair (.int .i64) .unit), .lit⟩),
  (20, ⟨[.bor, .bor], (.pair (.int .i64) .unit), .lit⟩),
  (21, ⟨[.bor], (.pair .bool .unit), .lit⟩),
  (22, ⟨[.bor], (.pair (.sl Y_impl_Shard) .unit), (.pair (.own (.pair .lit (.pair (.pair (.pair .lit (.pair (.own .lit) (.pair (.own .lit) .lit))) (.pair (.pair .lit (.pair (.own .lit) .lit)) (.pair (.own (.pair (.pair .lit (.pair (.own .lit) .lit)) (.pair .lit (.pair (.own .lit) .lit)))) (.pair (.own .lit) (.pair (.own (.pair .lit (.pair .lit (.pair .lit (.pair (.pair .lit (.pair (.own .lit) .lit)) (.pair (.own .lit) .lit)))))) (.pair (.own .lit) .lit)))))) .lit))) .lit)⟩),
  (23, ⟨[.bor], (.pair (.sl Y_impl_Caller) .unit), (.pair (.own (.pair (.own .lit) .lit)) .lit)⟩),
  (24, ⟨[.bor], (.pair (.sl Y_impl_Result) .unit), (.pair (.own .lit) .lit)⟩),
  (25, ⟨[.bor], (.pair Y_impl_Plan .unit), .lit⟩),
  (26, ⟨[.bor], (.pair .bool .unit), .lit⟩),
  (27, ⟨[.bor, .bor], (.pair .bool .unit), .lit⟩),
  (28, ⟨[.bor, .bor], (.pair .bool .unit), .lit⟩),
  (29, ⟨[.bor, .bor], (.pair .bool .unit), .lit⟩),
  (30, ⟨[.bor, .bor], (.pair .bool .unit), .lit⟩),
  (31, ⟨[.bor], (.pair (.sl Y_impl_Route) .unit), (.pair (.own .lit) .lit)⟩),
  (32, ⟨[.bor], (.pair (.sl Y_impl_Route) .unit), (.pair (.own .lit) .lit)⟩),
  (33, ⟨[.bor, .bor], (.pair .bool .unit), .lit⟩),
  (34, ⟨[.own, .bor], (.pair (.int .i64) .unit), .lit⟩),
  (35, ⟨[.io, .bor], (.pair (.int .i64) (.tc (.sl Y_impl_Caller) .unit)), (.pair .lit (.pair (.own (.pair (.own .lit) .lit)) .lit))⟩),
  (36, ⟨[.io, .bor], (.pair (.int .i64) (.tc (.sl Y_impl_Result) .unit)), (.pair .lit (.pair (.own .lit) .lit))⟩),
  (37, ⟨[.io, .bor], (.pair (.int .i64) (.tc (.sl Y_impl_Route) .unit)), (.pair .lit (.pair (.own .lit) .lit))⟩),
  (38, ⟨[.bor, .bor], (.pair (.int .i64) .unit), .lit⟩),
  (39, ⟨[.bor, .bor], (.pair (.int .i64) .unit), .lit⟩),
  (40, ⟨[.bor, .bor], (.pair (.int .i64) .unit), .lit⟩),
  (41, ⟨[.bor, .bor], (.pair (.int .i64) .unit), .lit⟩),
  (42, ⟨[.bor, .bor, .bor], (.pair .bool .unit), .lit⟩),
  (43, ⟨[.bor, .bor], (.pair .bool .unit), .lit⟩),
  (44, ⟨[.bor], (.pair .bool .unit), .lit⟩),
  (45, ⟨[.bor], (.pair .bool .unit), .lit⟩),
  (46, ⟨[.bor], (.pair .bool .unit), .lit⟩),
  (47, ⟨[.bor], (.pair .bool .unit), .lit⟩),
  (48, ⟨[.bor], (.pair (.sl Y_impl_Route) .unit), (.pair (.own .lit) .lit)⟩),
  (49, ⟨[.bor], (.pair Y_impl_Shard .unit), (.pair (.pair .lit (.pair (.pair (.pair .lit (.pair (.own .lit) (.pair (.own .lit) .lit))) (.pair (.pair .lit (.pair (.own .lit) .lit)) (.pair (.own (.pair (.pair .lit (.pair (.own .lit) .lit)) (.pair .lit (.pair (.own .lit) .lit)))) (.pair (.own .lit) (.pair (.own (.pair .lit (.pair .lit (.pair .lit (.pair (.pair .lit (.pair (.own .lit) .lit)) (.pair (.own .lit) .lit)))))) (.pair (.own .lit) .lit)))))) .lit)) .lit)⟩),
  (50, ⟨[.bor], (.pair Y_impl_Caller .unit), (.pair (.pair (.own .lit) .lit) .lit)⟩),
  (51, ⟨[.bor], (.pair Y_impl_Result .unit), .lit⟩),
  (52, ⟨[.bor], (.pair .bool .unit), .lit⟩),
  (53, ⟨[.bor, .bor], (.pair .bool .unit), .lit⟩),
  (54, ⟨[.bor], (.pair .bool .unit), .lit⟩),
  (55, ⟨[.bor], (.pair .bool .unit), .lit⟩),
  (56, ⟨[.bor], (.pair .bool .unit), .lit⟩),
  (57, ⟨[.bor], (.pair .bool .unit), .lit⟩),
  (58, ⟨[.bor], (.pair .bool .unit), .lit⟩),
  (59, ⟨[.bor], (.pair .bool .unit), .lit⟩),
  (60, ⟨[.bor, .bor], (.pair .bool .unit), .lit⟩),
  (61, ⟨[.bor, .bor], (.pair .bool .unit), .lit⟩),
  (62, ⟨[.bor, .bor], (.pair .bool .unit), .lit⟩),
  (63, ⟨[.io, .bor], (.pair .unit (.tc (.sl Y_impl_Route) .unit)), (.pair .lit (.pair (.own .lit) .lit))⟩),
  (64, ⟨[.bor, .bor], (.pair (.int .i64) .unit), .lit⟩),
  (65, ⟨[.bor, .bor], (.pair (.int .i64) .unit), .lit⟩),
  (66, ⟨[.bor, .bor], (.pair .bool .unit), .lit⟩),
  (67, ⟨[.bor], (.pair .str .unit), .lit⟩),
  (68, ⟨[.io, .bor], (.pair (.int .i64) (.tc (.sl Y_impl_Pair) .unit)), (.pair .lit (.pair (.own .lit) .lit))⟩),
  (69, ⟨[.io, .bor], (.pair (.int .i64) (.tc (.sl Y_impl_Session) .unit)), (.pair .lit (.pair (.own .lit) .lit))⟩),
  (70, ⟨[.io, .bor], (.pair (.int .i64) (.tc (.sl (.int .i64)) .unit)), (.pair .lit (.pair (.own .lit) .lit))⟩),
  (71, ⟨[.io, .bor], (.pair (.int .i64) (.tc (.sl Y_impl_Replica) .unit)), (.pair .lit (.pair (.own (.pair (.pair .lit (.pair (.own .lit) .lit)) (.pair .lit (.pair (.own .lit) .lit)))) .lit))⟩),
  (72, ⟨[.io, .bor], (.pair (.int .i64) (.tc (.sl .bool) .unit)), (.pair .lit (.pair (.own .lit) .lit))⟩),
  (73, ⟨[.io, .bor], (.pair (.int .i64) (.tc (.sl Y_impl_Message) .unit)), (.pair .lit (.pair (.own (.pair .lit (.pair .lit (.pair .lit (.pair (.pair .lit (.pair (.own .lit) .lit)) (.pair (.own .lit) .lit)))))) .lit))⟩),
  (74, ⟨[.io, .bor], (.pair (.int .i64) (.tc (.sl Y_impl_Answer) .unit)), (.pair .lit (.pair (.own .lit) .lit))⟩),
  (75, ⟨[.bor, .bor], (.pair (.int .i64) .unit), .lit⟩),
  (76, ⟨[.bor, .bor], (.pair (.int .i64) .unit), .lit⟩),
  (77, ⟨[.bor, .bor], (.pair (.int .i64) .unit), .lit⟩),
  (78, ⟨[.bor], (.pair .bool .unit), .lit⟩),
  (79, ⟨[.bor], (.pair .bool .unit), .lit⟩),
  (80, ⟨[.bor], (.pair .bool .unit), .lit⟩),
  (81, ⟨[.bor], (.pair .bool .unit), .lit⟩),
  (82, ⟨[.bor], (.pair .bool .unit), .lit⟩),
  (83, ⟨[.bor], (.pair .bool .unit), .lit⟩),
  (84, ⟨[.bor], (.pair .bool .unit), .lit⟩),
  (85, ⟨[.bor], (.pair .bool .unit), .lit⟩),
  (86, ⟨[.bor], (.pair .bool .unit), .lit⟩),
  (87, ⟨[.bor], (.pair Y_impl_Chain .unit), (.pair (.pair (.pair .lit (.pair (.own .lit) (.pair (.own .lit) .lit))) (.pair (.pair .lit (.pair (.own .lit) .lit)) (.pair (.own (.pair (.pair .lit (.pair (.own .lit) .lit)) (.pair .lit (.pair (.own .lit) .lit)))) (.pair (.own .lit) (.pair (.own (.pair .lit (.pair .lit (.pair .lit (.pair (.pair .lit (.pair (.own .lit) .lit)) (.pair (.own .lit) .lit)))))) (.pair (.own .lit) .lit)))))) .lit)⟩),
  (88, ⟨[.bor], (.pair (.sl Y_impl_Route) .unit), (.pair (.own .lit) .lit)⟩),
  (89, ⟨[.bor], (.pair Y_impl_Command .unit), .lit⟩),
  (90, ⟨[.bor], (.pair .bool .unit), .lit⟩),
  (91, ⟨[.bor], (.pair .bool .unit), .lit⟩),
  (92, ⟨[.bor], (.pair .bool .unit), .lit⟩),
  (93, ⟨[.bor], (.pair .bool .unit), .lit⟩),
  (94, ⟨[.bor], (.pair .bool .unit), .lit⟩),
  (95, ⟨[.bor], (.pair .bool .unit), .lit⟩),
  (96, ⟨[.bor], (.pair .bool .unit), .lit⟩),
  (97, ⟨[.bor], (.pair .bool .unit), .lit⟩),
  (98, ⟨[.bor], (.pair .bool .unit), .lit⟩),
  (99, ⟨[.bor], (.pair .bool .unit), .lit⟩),
  (100, ⟨[.bor], (.pair .bool .unit), .lit⟩),
  (101, ⟨[.bor], (.pair .bool .unit), .lit⟩),
  (102, ⟨[.bor], (.pair .bool .unit), .lit⟩),
  (103, ⟨[.bor], (.pair .bool .unit), .lit⟩),
  (104, ⟨[.bor], (.pair (.sl Y_impl_Interval) .unit), (.pair (.own .lit) .lit)⟩),
  (105, ⟨[.bor], (.pair .bool .unit), .lit⟩),
  (106, ⟨[.bor, .bor], (.pair .bool .unit), .lit⟩),
  (107, ⟨[.bor, .bor], (.pair .bool .unit), .lit⟩),
  (108, ⟨[.io, .bor, .bor], (.pair .unit (.tc (.sl Y_impl_Route) .unit)), (.pair .lit (.pair (.own .lit) .lit))⟩),
  (109, ⟨[.bor], (.pair .bool .unit), .lit⟩),
  (110, ⟨[.bor, .bor], (.pair .bool .unit), .lit⟩),
  (111, ⟨[.io, .bor], (.pair (.int .i64) (.tc (.sl Y_impl_Entry) .unit)), (.pair .lit (.pair (.own .lit) .lit))⟩),
  (112, ⟨[.bor, .bor], (.pair (.int .i64) .unit), .lit⟩),
  (113, ⟨[.bor, .bor], (.pair (.int .i64) .unit), .lit⟩),
  (114, ⟨[.bor, .bor], (.pair (.int .i64) .unit), .lit⟩),
  (115, ⟨[.bor, .bor], (.pair (.int .i64) .unit), .lit⟩),
  (116, ⟨[.bor, .bor], (.pair (.int .i64) .unit), .lit⟩),
  (117, ⟨[.bor, .bor], (.pair (.int .i64) .unit), .lit⟩),
  (118, ⟨[.bor, .bor], (.pair (.int .i64) .unit), .lit⟩),
  (119, ⟨[.bor], (.pair .bool .unit), .lit⟩),
  (120, ⟨[.bor], (.pair .bool .unit), .lit⟩),
  (121, ⟨[.bor], (.pair .bool .unit), .lit⟩),
  (122, ⟨[.bor], (.pair .bool .unit), .lit⟩),
  (123, ⟨[.bor, .bor], (.pair .bool .unit), .lit⟩),
  (124, ⟨[.bor, .bor], (.pair (.tc Y_impl_Interval (.tc Y_impl_Interval (.tc .bool .unit))) .unit), .lit⟩),
  (125, ⟨[.bor], (.pair .bool .unit), .lit⟩),
  (126, ⟨[.bor], (.pair .bool .unit), .lit⟩),
  (127, ⟨[.bor], (.pair .bool .unit), .lit⟩),
  (128, ⟨[.bor], (.pair .bool .unit), .lit⟩),
  (129, ⟨[.bor, .bor], (.pair (.tc Y_impl_Interval (.tc .bool .unit)) .unit), .lit⟩),
  (130, ⟨[.bor], (.pair Y_impl_State .unit), (.pair (.pair .lit (.pair (.own .lit) (.pair (.own .lit) .lit))) .lit)⟩),
  (131, ⟨[.bor], (.pair Y_impl_Config .unit), (.pair (.pair .lit (.pair (.own .lit) .lit)) .lit)⟩),
  (132, ⟨[.bor], (.pair (.sl Y_impl_Replica) .unit), (.pair (.own (.pair (.pair .lit (.pair (.own .lit) .lit)) (.pair .lit (.pair (.own .lit) .lit)))) .lit)⟩),
  (133, ⟨[.bor], (.pair (.sl .bool) .unit), (.pair (.own .lit) .lit)⟩),
  (134, ⟨[.bor], (.pair (.sl Y_impl_Message) .unit), (.pair (.own (.pair .lit (.pair .lit (.pair .lit (.pair (.pair .lit (.pair (.own .lit) .lit)) (.pair (.own .lit) .lit)))))) .lit)⟩),
  (135, ⟨[.bor], (.pair (.sl Y_impl_Answer) .unit), (.pair (.own .lit) .lit)⟩),
  (136, ⟨[.bor], (.pair Y_impl_Route .unit), .lit⟩),
  (137, ⟨[.bor], (.pair .bool .unit), .lit⟩),
  (138, ⟨[.bor], (.pair .bool .unit), .lit⟩),
  (139, ⟨[.bor], (.pair .bool .unit), .lit⟩),
  (140, ⟨[.bor, .bor], (.pair .bool .unit), .lit⟩),
  (141, ⟨[.bor, .bor], (.pair (.tc Y_impl_Interval (.tc Y_impl_Interval (.tc .bool .unit))) .unit), .lit⟩),
  (142, ⟨[.bor, .bor], (.pair .bool .unit), .lit⟩),
  (143, ⟨[.bor], (.pair .bool .unit), .lit⟩),
  (144, ⟨[.bor], (.pair .bool .unit), .lit⟩),
  (145, ⟨[.bor], (.pair .bool .unit), .lit⟩),
  (146, ⟨[.bor], (.pair .bool .unit), .lit⟩),
  (147, ⟨[.bor], (.pair .bool .unit), .lit⟩),
  (148, ⟨[.bor], (.pair .bool .unit), .lit⟩),
  (149, ⟨[.bor, .bor], (.pair (.tc Y_impl_Interval (.tc .bool .unit)) .unit), .lit⟩),
  (150, ⟨[.bor, .bor], (.pair (.int .i64) .unit), .lit⟩),
  (151, ⟨[.bor, .bor], (.pair .bool .unit), .lit⟩),
  (152, ⟨[.bor, .bor], (.pair .bool .unit), .lit⟩),
  (153, ⟨[.bor, .bor], (.pair .bool .unit), .lit⟩),
  (154, ⟨[.bor, .bor], (.pair .bool .unit), .lit⟩),
  (155, ⟨[.bor, .bor], (.pair .bool .unit), .lit⟩),
  (156, ⟨[.bor, .bor], (.pair .bool .unit), .lit⟩),
  (157, ⟨[.io, .bor, .bor, .bor], (.pair .unit (.tc (.sl Y_impl_Route) .unit)), (.pair .lit (.pair (.own .lit) .lit))⟩),
  (158, ⟨[.io, .bor, .bor, .bor, .bor], (.pair .unit (.tc (.sl Y_impl_Route) .unit)), (.pair .lit (.pair (.own .lit) .lit))⟩),
  (159, ⟨[.bor, .bor], (.pair (.int .i64) .unit), .lit⟩),
  (160, ⟨[.bor, .bor], (.pair (.int .i64) .unit), .lit⟩),
  (161, ⟨[.bor, .bor], (.pair (.int .i64) .unit), .lit⟩),
  (162, ⟨[.bor, .bor], (.pair (.int .i64) .unit), .lit⟩),
  (163, ⟨[.bor, .bor], (.pair (.int .i64) .unit), .lit⟩),
  (164, ⟨[.bor, .bor], (.pair (.int .i64) .unit), .lit⟩),
  (165, ⟨[.bor, .bor], (.pair (.int .i64) .unit), .lit⟩),
  (166, ⟨[.bor], (.pair Y_impl_Interval .unit), .lit⟩),
  (167, ⟨[.bor], (.pair (.sl Y_impl_Pair) .unit), (.pair (.own .lit) .lit)⟩),
  (168, ⟨[.bor], (.pair (.sl Y_impl_Session) .unit), (.pair (.own .lit) .lit)⟩),
  (169, ⟨[.bor], (.pair (.sl (.int .i64)) .unit), (.pair (.own .lit) .lit)⟩),
  (170, ⟨[.bor], (.pair Y_impl_Replica .unit), (.pair (.pair (.pair .lit (.pair (.own .lit) .lit)) (.pair .lit (.pair (.own .lit) .lit))) .lit)⟩),
  (171, ⟨[.bor], (.pair Y_impl_Message .unit), (.pair (.pair .lit (.pair .lit (.pair .lit (.pair (.pair .lit (.pair (.own .lit) .lit)) (.pair (.own .lit) .lit))))) .lit)⟩),
  (172, ⟨[.bor], (.pair Y_impl_Answer .unit), .lit⟩),
  (173, ⟨[.bor], (.pair .str .unit), .lit⟩),
  (174, ⟨[.bor], (.pair .bool .unit), .lit⟩),
  (175, ⟨[.bor, .bor], (.pair (.int .i64) .unit), .lit⟩),
  (176, ⟨[.bor, .bor], (.pair .bool .unit), .lit⟩),
  (177, ⟨[.bor, .bor], (.pair .bool .unit), .lit⟩),
  (178, ⟨[.bor, .bor], (.pair .bool .unit), .lit⟩),
  (179, ⟨[.bor, .bor], (.pair .bool .unit), .lit⟩),
  (180, ⟨[.bor, .bor], (.pair .bool .unit), .lit⟩),
  (181, ⟨[.bor, .bor], (.pair .bool .unit), .lit⟩),
  (182, ⟨[.io, .bor, .bor, .bor, .bor], (.pair .unit (.tc (.sl Y_impl_Route) .unit)), (.pair .lit (.pair (.own .lit) .lit))⟩),
  (183, ⟨[.bor, .bor], (.pair (.int .i64) .unit), .lit⟩),
  (184, ⟨[.bor, .bor], (.pair (.int .i64) .unit), .lit⟩),
  (185, ⟨[.bor, .bor], (.pair (.int .i64) .unit), .lit⟩),
  (186, ⟨[.bor], (.pair Y_impl_Pair .unit), .lit⟩),
  (187, ⟨[.bor], (.pair Y_impl_Session .unit), .lit⟩),
  (188, ⟨[.bor], (.pair (.sl Y_impl_Entry) .unit), (.pair (.own .lit) .lit)⟩),
  (189, ⟨[.bor], (.pair Y_impl_Entry .unit), .lit⟩),
  (190, ⟨[.bor, .bor], (.pair .bool .unit), .lit⟩),
  (191, ⟨[.bor, .bor], (.pair .bool .unit), .lit⟩),
  (192, ⟨[.bor, .bor], (.pair .bool .unit), .lit⟩),
  (193, ⟨[.bor, .bor], (.pair .bool .unit), .lit⟩),
  (194, ⟨[.io, .bor, .bor, .bor, .bor], (.pair .unit (.tc (.sl Y_impl_Route) .unit)), (.pair .lit (.pair (.own .lit) .lit))⟩)]
def STl : List (Nat × List (Nat × List Nat)) := [(17, [(5, [0, 1, 5])]),
  (18, [(5, [0, 1, 5])]),
  (19, [(5, [0, 1, 5])]),
  (21, [(4, [1, 3]), (9, [1, 3, 4]), (14, [1, 5]), (19, [1, 6])]),
  (22, [(3, [0, 3, 4])]),
  (23, [(3, [0, 3, 4])]),
  (24, [(3, [0, 3, 4])]),
  (26, [(4, [1, 32, 33, 34]), (10, [1, 57, 58, 59]), (16, [1, 68, 69, 70])]),
  (28, [(4, [0, 1, 5])]),
  (29, [(4, [0, 1, 5])]),
  (30, [(4, [0, 1, 5])]),
  (32, [(3, [3, 7, 8, 9])]),
  (33, [(4, [0, 1, 5])]),
  (34, [(2, [0, 1, 5]), (3, [0, 1, 5]), (5, [0, 1, 5]), (7, [0, 1, 5]), (9, [0, 1, 5]), (11, [0, 1, 5]), (12, [0, 1, 5]), (13, [0, 1, 5]), (15, [0, 1, 5]), (17, [0, 1, 5]), (19, [0, 1, 5]), (20, [0, 1, 5]), (22, [0, 1, 5]), (23, [0, 1, 5]), (24, [0, 1, 5])]),
  (35, [(2, [0, 1, 5]), (5, [0, 1, 5]), (6, [0, 1, 5]), (8, [0, 1, 5]), (10, [0, 1, 5]), (12, [0, 1, 5]), (14, [0, 1, 5]), (16, [0, 1, 5]), (18, [0, 1, 5])]),
  (36, [(2, [0, 1, 5]), (5, [0, 1, 5]), (7, [0, 1, 5]), (9, [0, 1, 5]), (11, [0, 1, 5]), (13, [0, 1, 5]), (15, [0, 1, 5]), (17, [0, 1, 5]), (19, [0, 1, 5]), (21, [0, 1, 5])]),
  (37, [(2, [0, 1, 5]), (7, [0, 1, 5]), (9, [0, 1, 5])]),
  (38, [(2, [0, 1, 5])]),
  (44, [(4, [1, 3]), (9, [1, 4]), (14, [1, 5])]),
  (47, [(3, [0, 3, 4]), (8, [0, 3, 4, 5])]),
  (48, [(3, [1, 3, 4]), (9, [1, 3, 4, 5, 6, 7])]),
  (52, [(4, [1, 36, 37, 38]), (10, [1, 56, 57, 58])]),
  (53, [(4, [0, 1, 12, 13])]),
  (67, [(4, [0, 3])]),
  (68, [(2, [0, 1, 5]), (7, [0, 1, 5])]),
  (69, [(2, [0, 1, 5]), (5, [0, 1, 5]), (7, [0, 1, 5]), (9, [0, 1, 5])]),
  (70, [(2, [0, 1, 5])]),
  (71, [(2, [0, 1, 5]), (3, [0, 1, 5]), (5, [0, 1, 5]), (7, [0, 1, 5]), (8, [0, 1, 5]), (10, [0, 1, 5])]),
  (72, [(2, [0, 1, 5])]),
  (73, [(2, [0, 1, 5]), (3, [0, 1, 5]), (5, [0, 1, 5]), (7, [0, 1, 5]), (9, [0, 1, 5]), (11, [0, 1, 5]), (13, [0, 1, 5]), (14, [0, 1, 5])]),
  (74, [(2, [0, 1, 5]), (5, [0, 1, 5]), (7, [0, 1, 5]), (9, [0, 1, 5]), (11, [0, 1, 5]), (13, [0, 1, 5]), (15, [0, 1, 5]), (17, [0, 1, 5])]),
  (76, [(5, [0, 1, 5])]),
  (79, [(4, [1, 3])]),
  (80, [(4, [1, 3]), (9, [1, 3, 4])]),
  (81, [(2, [0, 3])]),
  (84, [(2, [0, 3]), (7, [0, 3, 4])]),
  (86, [(4, [0, 3])]),
  (88, [(3, [0, 3, 4])]),
  (90, [(4, [1, 25, 26, 27])]),
  (91, [(5, [1, 34, 35, 36])]),
  (92, [(4, [8, 9, 10])]),
  (94, [(4, [8, 9, 10])]),
  (95, [(4, [0, 13, 14, 15])]),
  (103, [(5, [0, 32, 33, 34])]),
  (104, [(3, [3, 6, 7, 8])]),
  (105, [(2, [0, 5, 6, 7])]),
  (108, [(2, [0, 1, 2, 6, 7, 8]), (7, [0, 1, 2, 6]), (9, [0, 1, 2, 6, 7, 8])]),
  (111, [(2, [0, 1, 5]), (5, [0, 1, 5]), (7, [0, 1, 5]), (9, [0, 1, 5]), (11, [0, 1, 5]), (13, [0, 1, 5]), (15, [0, 1, 5])]),
  (114, [(5, [0, 1, 5])]),
  (116, [(5, [0, 1, 5])]),
  (117, [(5, [0, 1, 5])]),
  (119, [(4, [0, 3])]),
  (121, [(4, [0, 3])]),
  (122, [(2, [0, 3])]),
  (127, [(2, [0, 3])]),
  (132, [(3, [0, 3, 4])]),
  (133, [(3, [0, 3, 4])]),
  (134, [(3, [0, 3, 4])]),
  (135, [(3, [0, 3, 4])]),
  (138, [(4, [0, 8, 9, 10])]),
  (139, [(2, [0, 5, 6, 7])]),
  (145, [(4, [8, 9, 10])]),
  (150, [(2, [1, 7, 8, 9])]),
  (153, [(4, [0, 1, 5])]),
  (154, [(4, [0, 1, 5])]),
  (155, [(4, [0, 1, 5])]),
  (156, [(4, [0, 1, 5])]),
  (157, [(1, [0, 1, 2, 3, 8]), (4, [0, 1, 2, 3, 8, 9])]),
  (158, [(3, [0, 1, 4, 10, 11]), (9, [0, 10, 13]), (15, [0, 2, 4, 14, 15]), (21, [0, 14, 17]), (33, [0, 1, 2, 3, 4, 18, 19, 20, 21, 22]), (43, [0, 3, 4, 18, 24])]),
  (160, [(5, [0, 1, 5])]),
  (167, [(3, [0, 3, 4])]),
  (168, [(3, [0, 3, 4])]),
  (169, [(3, [0, 3, 4])]),
  (175, [(2, [0, 1, 7, 8])]),
  (176, [(4, [0, 1, 5])]),
  (177, [(4, [0, 1, 5])]),
  (178, [(4, [0, 1, 5])]),
  (182, [(2, [0, 2, 4, 10, 11])]),
  (184, [(5, [0, 1, 5])]),
  (188, [(3, [0, 3, 4])]),
  (192, [(4, [0, 1, 5])]),
  (194, [(1, [0, 1, 2, 3, 10])])]
def TKl : List (Nat × List (Nat × List Nat)) := []
def HLl : List (Nat × List (Nat × List Nat)) := [(34, [(10, [5000000]), (11, [5000000]), (15, [5000000]), (18, [5000000]), (21, [5000000]), (22, [5000000]), (23, [5000000]), (24, [5000000])]),
  (35, [(4, [5000000])]),
  (71, [(6, [5000000]), (11, [5000000])]),
  (73, [(12, [5000000]), (15, [5000000])])]
def isIn (n : Nat) : Option (List Nat) → Bool
  | some l => l.any (Nat.beq n)
  | none => false
noncomputable instance : Cx := ⟨Tryz.prog, fun f => look f FTl, fun t => look t TBl, fun f => look f SGl, fun f r => (look f STl).bind (look r), fun f r n => isIn n ((look f TKl).bind (look r)), fun f r n => isIn n ((look f HLl).bind (look r)), fun f r => ((look f HLl).bind (look r)).getD []⟩
def AllP {α : Type} (p : Nat → α → Prop) : List (Nat × α) → Prop
  | [] => True
  | x :: l => p x.1 x.2 ∧ AllP p l
theorem look_all {α : Type} {p : Nat → α → Prop} {k : Nat} {y : α} : ∀ {l : List (Nat × α)}, AllP p l → look k l = some y → p k y
  | x :: l, h, e => by
    simp only [look] at e
    cases b : Nat.beq x.1 k with
    | true => rw [b] at e; obtain rfl := Option.some.inj e; have := Nat.eq_of_beq_eq_true b; subst this; exact h.1
    | false => rw [b] at e; exact look_all h.2 e
theorem td3 : TD Tryz.prog (.int .i64) 3 := ⟨Tryz.underlying3, ⟨Tryz.t3, by kernel_rfl, by kernel_rfl, fun _ => ⟨.int .i64 0, by kernel_rfl, by kernel_rfl⟩⟩⟩
theorem td4 : TD Tryz.prog .bool 4 := ⟨Tryz.underlying4, ⟨Tryz.t4, by kernel_rfl, by kernel_rfl, fun _ => ⟨.bool false, by kernel_rfl, by kernel_rfl⟩⟩⟩
theorem td5 : TD Tryz.prog (.int .u8) 5 := ⟨Tryz.underlying5, ⟨Tryz.t5, by kernel_rfl, by kernel_rfl, fun _ => ⟨.int .u8 0, by kernel_rfl, by kernel_rfl⟩⟩⟩
theorem td9 : TD Tryz.prog .str 9 := ⟨Tryz.underlying9, ⟨Tryz.t9, by kernel_rfl, by kernel_rfl, fun _ => ⟨.string ⟨#[]⟩, by kernel_rfl, by kernel_rfl⟩⟩⟩
theorem td73 : TD Tryz.prog Y_laws_Interval 73 := ⟨_, Tryz.underlying73, ⟨Tryz.t73, by kernel_rfl, by kernel_rfl, fun _ => ⟨.agg #[.string ⟨#[]⟩, .string ⟨#[]⟩], by kernel_rfl, by kernel_rfl⟩⟩, ⟨rfl, by decide, td9, ⟨rfl, by decide, td9, trivial⟩⟩, by kernel_rfl, by kernel_rfl⟩
theorem td245 : TD Tryz.prog Y_laws_Pair 245 := ⟨_, Tryz.underlying245, ⟨Tryz.t245, by kernel_rfl, by kernel_rfl, fun _ => ⟨.agg #[.string ⟨#[]⟩, .int .i64 0], by kernel_rfl, by kernel_rfl⟩⟩, ⟨rfl, by decide, td9, ⟨rfl, by decide, td3, trivial⟩⟩, by kernel_rfl, by kernel_rfl⟩
theorem td74 : TD Tryz.prog (.sl Y_laws_Pair) 74 := ⟨245, Tryz.underlying74, ⟨Tryz.t74, by kernel_rfl, by kernel_rfl, fun _ => ⟨.slice none 0 0, by kernel_rfl, by kernel_rfl⟩⟩, td245⟩
theorem td250 : TD Tryz.prog Y_laws_Session 250 := ⟨_, Tryz.underlying250, ⟨Tryz.t250, by kernel_rfl, by kernel_rfl, fun _ => ⟨.agg #[.int .i64 0, .int .i64 0, .int .i64 0], by kernel_rfl, by kernel_rfl⟩⟩, ⟨rfl, by decide, td3, ⟨rfl, by decide, td3, ⟨rfl, by decide, td3, trivial⟩⟩⟩, by kernel_rfl, by kernel_rfl⟩
theorem td75 : TD Tryz.prog (.sl Y_laws_Session) 75 := ⟨250, Tryz.underlying75, ⟨Tryz.t75, by kernel_rfl, by kernel_rfl, fun _ => ⟨.slice none 0 0, by kernel_rfl, by kernel_rfl⟩⟩, td250⟩
theorem td77 : TD Tryz.prog Y_laws_State 77 := ⟨_, Tryz.underlying77, ⟨Tryz.t77, by kernel_rfl, by kernel_rfl, fun _ => ⟨.agg #[.string ⟨#[]⟩, .string ⟨#[]⟩, .slice none 0 0, .slice none 0 0, .bool false, .string ⟨#[]⟩], by kernel_rfl, by kernel_rfl⟩⟩, ⟨rfl, by decide, td73, ⟨rfl, by decide, td74, ⟨rfl, by decide, td75, ⟨rfl, by decide, td4, ⟨rfl, by decide, td9, trivial⟩⟩⟩⟩⟩, by kernel_rfl, by kernel_rfl⟩
theorem td78 : TD Tryz.prog (.sl (.int .i64)) 78 := ⟨3, Tryz.underlying78, ⟨Tryz.t78, by kernel_rfl, by kernel_rfl, fun _ => ⟨.slice none 0 0, by kernel_rfl, by kernel_rfl⟩⟩, td3⟩
theorem td80 : TD Tryz.prog Y_laws_Config 80 := ⟨_, Tryz.underlying80, ⟨Tryz.t80, by kernel_rfl, by kernel_rfl, fun _ => ⟨.agg #[.int .i64 0, .slice none 0 0, .bool false], by kernel_rfl, by kernel_rfl⟩⟩, ⟨rfl, by decide, td3, ⟨rfl, by decide, td78, ⟨rfl, by decide, td4, trivial⟩⟩⟩, by kernel_rfl, by kernel_rfl⟩
theorem td92 : TD Tryz.prog Y_laws_Command 92 := ⟨_, Tryz.underlying92, ⟨Tryz.t92, by kernel_rfl, by kernel_rfl, fun _ => ⟨.agg #[.int .i64 0, .string ⟨#[]⟩, .int .i64 0, .int .i64 0], by kernel_rfl, by kernel_rfl⟩⟩, ⟨rfl, by decide, td3, ⟨rfl, by decide, td9, ⟨rfl, by decide, td3, ⟨rfl, by decide, td3, trivial⟩⟩⟩⟩, by kernel_rfl, by kernel_rfl⟩
theorem td226 : TD Tryz.prog Y_laws_Entry 226 := ⟨_, Tryz.underlying226, ⟨Tryz.t226, by kernel_rfl, by kernel_rfl, fun _ => ⟨.agg #[.int .i64 0, .int .i64 0, .int .i64 0, .string ⟨#[]⟩, .int .i64 0, .int .i64 0], by kernel_rfl, by kernel_rfl⟩⟩, ⟨rfl, by decide, td3, ⟨rfl, by decide, td3, ⟨rfl, by decide, td92, trivial⟩⟩⟩, by kernel_rfl, by kernel_rfl⟩
theorem td218 : TD Tryz.prog (.sl Y_laws_Entry) 218 := ⟨226, Tryz.underlying218, ⟨Tryz.t218, by kernel_rfl, by kernel_rfl, fun _ => ⟨.slice none 0 0, by kernel_rfl, by kernel_rfl⟩⟩, td226⟩
theorem td220 : TD Tryz.prog Y_laws_Replica 220 := ⟨_, Tryz.underlying220, ⟨Tryz.t220, by kernel_rfl, by kernel_rfl, fun _ => ⟨.agg #[.int .i64 0, .slice none 0 0, .bool false, .bool false, .slice none 0 0], by kernel_rfl, by kernel_rfl⟩⟩, ⟨rfl, by decide, td80, ⟨rfl, by decide, td4, ⟨rfl, by decide, td218, trivial⟩⟩⟩, by kernel_rfl, by kernel_rfl⟩
theorem td81 : TD Tryz.prog (.sl Y_laws_Replica) 81 := ⟨220, Tryz.underlying81, ⟨Tryz.t81, by kernel_rfl, by kernel_rfl, fun _ => ⟨.slice none 0 0, by kernel_rfl, by kernel_rfl⟩⟩, td220⟩
theorem td82 : TD Tryz.prog (.sl .bool) 82 := ⟨4, Tryz.underlying82, ⟨Tryz.t82, by kernel_rfl, by kernel_rfl, fun _ => ⟨.slice none 0 0, by kernel_rfl, by kernel_rfl⟩⟩, td4⟩
theorem td223 : TD Tryz.prog Y_laws_Message 223 := ⟨_, Tryz.underlying223, ⟨Tryz.t223, by kernel_rfl, by kernel_rfl, fun _ => ⟨.agg #[.int .i64 0, .int .i64 0, .int .i64 0, .int .i64 0, .slice none 0 0, .bool false, .slice none 0 0], by kernel_rfl, by kernel_rfl⟩⟩, ⟨rfl, by decide, td3, ⟨rfl, by decide, td3, ⟨rfl, by decide, td3, ⟨rfl, by decide, td80, ⟨rfl, by decide, td218, trivial⟩⟩⟩⟩⟩, by kernel_rfl, by kernel_rfl⟩
theorem td83 : TD Tryz.prog (.sl Y_laws_Message) 83 := ⟨223, Tryz.underlying83, ⟨Tryz.t83, by kernel_rfl, by kernel_rfl, fun _ => ⟨.slice none 0 0, by kernel_rfl, by kernel_rfl⟩⟩, td223⟩
theorem td228 : TD Tryz.prog Y_laws_Answer 228 := ⟨_, Tryz.underlying228, ⟨Tryz.t228, by kernel_rfl, by kernel_rfl, fun _ => ⟨.agg #[.int .i64 0, .int .i64 0, .int .i64 0, .string ⟨#[]⟩, .int .i64 0, .int .i64 0, .int .i64 0], by kernel_rfl, by kernel_rfl⟩⟩, ⟨rfl, by decide, td226, ⟨rfl, by decide, td3, trivial⟩⟩, by kernel_rfl, by kernel_rfl⟩
theorem td84 : TD Tryz.prog (.sl Y_laws_Answer) 84 := ⟨228, Tryz.underlying84, ⟨Tryz.t84, by kernel_rfl, by kernel_rfl, fun _ => ⟨.slice none 0 0, by kernel_rfl, by kernel_rfl⟩⟩, td228⟩
theorem td86 : TD Tryz.prog Y_laws_Chain 86 := ⟨_, Tryz.underlying86, ⟨Tryz.t86, by kernel_rfl, by kernel_rfl, fun _ => ⟨.agg #[.string ⟨#[]⟩, .string ⟨#[]⟩, .slice none 0 0, .slice none 0 0, .bool false, .string ⟨#[]⟩, .int .i64 0, .slice none 0 0, .bool false, .slice none 0 0, .slice none 0 0, .slice none 0 0, .slice none 0 0], by kernel_rfl, by kernel_rfl⟩⟩, ⟨rfl, by decide, td77, ⟨rfl, by decide, td80, ⟨rfl, by decide, td81, ⟨rfl, by decide, td82, ⟨rfl, by decide, td83, ⟨rfl, by decide, td84, trivial⟩⟩⟩⟩⟩⟩, by kernel_rfl, by kernel_rfl⟩
theorem td88 : TD Tryz.prog Y_laws_Shard 88 := ⟨_, Tryz.underlying88, ⟨Tryz.t88, by kernel_rfl, by kernel_rfl, fun _ => ⟨.agg #[.bool false, .string ⟨#[]⟩, .string ⟨#[]⟩, .slice none 0 0, .slice none 0 0, .bool false, .string ⟨#[]⟩, .int .i64 0, .slice none 0 0, .bool false, .slice none 0 0, .slice none 0 0, .slice none 0 0, .slice none 0 0], by kernel_rfl, by kernel_rfl⟩⟩, ⟨rfl, by decide, td4, ⟨rfl, by decide, td86, trivial⟩⟩, by kernel_rfl, by kernel_rfl⟩
theorem td22 : TD Tryz.prog (.sl Y_laws_Shard) 22 := ⟨88, Tryz.underlying22, ⟨Tryz.t22, by kernel_rfl, by kernel_rfl, fun _ => ⟨.slice none 0 0, by kernel_rfl, by kernel_rfl⟩⟩, td88⟩
theorem td188 : TD Tryz.prog Y_laws_Route 188 := ⟨_, Tryz.underlying188, ⟨Tryz.t188, by kernel_rfl, by kernel_rfl, fun _ => ⟨.agg #[.int .i64 0, .string ⟨#[]⟩, .string ⟨#[]⟩], by kernel_rfl, by kernel_rfl⟩⟩, ⟨rfl, by decide, td3, ⟨rfl, by decide, td73, trivial⟩⟩, by kernel_rfl, by kernel_rfl⟩
theorem td90 : TD Tryz.prog (.sl Y_laws_Route) 90 := ⟨188, Tryz.underlying90, ⟨Tryz.t90, by kernel_rfl, by kernel_rfl, fun _ => ⟨.slice none 0 0, by kernel_rfl, by kernel_rfl⟩⟩, td188⟩
theorem td94 : TD Tryz.prog Y_laws_Caller 94 := ⟨_, Tryz.underlying94, ⟨Tryz.t94, by kernel_rfl, by kernel_rfl, fun _ => ⟨.agg #[.slice none 0 0, .int .i64 0, .bool false, .int .i64 0, .string ⟨#[]⟩, .int .i64 0, .int .i64 0, .int .i64 0], by kernel_rfl, by kernel_rfl⟩⟩, ⟨rfl, by decide, td90, ⟨rfl, by decide, td3, ⟨rfl, by decide, td4, ⟨rfl, by decide, td92, ⟨rfl, by decide, td3, trivial⟩⟩⟩⟩⟩, by kernel_rfl, by kernel_rfl⟩
theorem td23 : TD Tryz.prog (.sl Y_laws_Caller) 23 := ⟨94, Tryz.underlying23, ⟨Tryz.t23, by kernel_rfl, by kernel_rfl, fun _ => ⟨.slice none 0 0, by kernel_rfl, by kernel_rfl⟩⟩, td94⟩
theorem td97 : TD Tryz.prog Y_laws_Result 97 := ⟨_, Tryz.underlying97, ⟨Tryz.t97, by kernel_rfl, by kernel_rfl, fun _ => ⟨.agg #[.int .i64 0, .int .i64 0, .int .i64 0, .string ⟨#[]⟩, .int .i64 0, .int .i64 0, .int .i64 0, .int .i64 0, .int .i64 0], by kernel_rfl, by kernel_rfl⟩⟩, ⟨rfl, by decide, td3, ⟨rfl, by decide, td3, ⟨rfl, by decide, td92, ⟨rfl, by decide, td3, ⟨rfl, by decide, td3, ⟨rfl, by decide, td3, trivial⟩⟩⟩⟩⟩⟩, by kernel_rfl, by kernel_rfl⟩
theorem td24 : TD Tryz.prog (.sl Y_laws_Result) 24 := ⟨97, Tryz.underlying24, ⟨Tryz.t24, by kernel_rfl, by kernel_rfl, fun _ => ⟨.slice none 0 0, by kernel_rfl, by kernel_rfl⟩⟩, td97⟩
theorem td26 : TD Tryz.prog Y_laws_Plan 26 := ⟨_, Tryz.underlying26, ⟨Tryz.t26, by kernel_rfl, by kernel_rfl, fun _ => ⟨.agg #[.int .i64 0, .int .i64 0, .int .i64 0, .string ⟨#[]⟩, .int .i64 0, .int .i64 0, .int .i64 0], by kernel_rfl, by kernel_rfl⟩⟩, ⟨rfl, by decide, td3, ⟨rfl, by decide, td3, ⟨rfl, by decide, td3, ⟨rfl, by decide, td9, ⟨rfl, by decide, td3, ⟨rfl, by decide, td3, ⟨rfl, by decide, td3, trivial⟩⟩⟩⟩⟩⟩⟩, by kernel_rfl, by kernel_rfl⟩
theorem td28 : TD Tryz.prog Y_laws_Cluster 28 := ⟨_, Tryz.underlying28, ⟨Tryz.t28, by kernel_rfl, by kernel_rfl, fun _ => ⟨.agg #[.slice none 0 0, .slice none 0 0, .slice none 0 0, .int .i64 0, .int .i64 0, .int .i64 0, .string ⟨#[]⟩, .int .i64 0, .int .i64 0, .int .i64 0, .int .i64 0, .int .i64 0], by kernel_rfl, by kernel_rfl⟩⟩, ⟨rfl, by decide, td22, ⟨rfl, by decide, td23, ⟨rfl, by decide, td24, ⟨rfl, by decide, td26, ⟨rfl, by decide, td3, ⟨rfl, by decide, td3, trivial⟩⟩⟩⟩⟩⟩, by kernel_rfl, by kernel_rfl⟩
theorem td30 : TD Tryz.prog Y_impl_Plan 30 := ⟨_, Tryz.underlying30, ⟨Tryz.t30, by kernel_rfl, by kernel_rfl, fun _ => ⟨.agg #[.int .i64 0, .int .i64 0, .int .i64 0, .string ⟨#[]⟩, .int .i64 0, .int .i64 0, .int .i64 0], by kernel_rfl, by kernel_rfl⟩⟩, ⟨rfl, by decide, td3, ⟨rfl, by decide, td3, ⟨rfl, by decide, td3, ⟨rfl, by decide, td9, ⟨rfl, by decide, td3, ⟨rfl, by decide, td3, ⟨rfl, by decide, td3, trivial⟩⟩⟩⟩⟩⟩⟩, by kernel_rfl, by kernel_rfl⟩
theorem td101 : TD Tryz.prog Y_impl_Interval 101 := ⟨_, Tryz.underlying101, ⟨Tryz.t101, by kernel_rfl, by kernel_rfl, fun _ => ⟨.agg #[.string ⟨#[]⟩, .string ⟨#[]⟩], by kernel_rfl, by kernel_rfl⟩⟩, ⟨rfl, by decide, td9, ⟨rfl, by decide, td9, trivial⟩⟩, by kernel_rfl, by kernel_rfl⟩
theorem td177 : TD Tryz.prog Y_impl_Pair 177 := ⟨_, Tryz.underlying177, ⟨Tryz.t177, by kernel_rfl, by kernel_rfl, fun _ => ⟨.agg #[.string ⟨#[]⟩, .int .i64 0], by kernel_rfl, by kernel_rfl⟩⟩, ⟨rfl, by decide, td9, ⟨rfl, by decide, td3, trivial⟩⟩, by kernel_rfl, by kernel_rfl⟩
theorem td102 : TD Tryz.prog (.sl Y_impl_Pair) 102 := ⟨177, Tryz.underlying102, ⟨Tryz.t102, by kernel_rfl, by kernel_rfl, fun _ => ⟨.slice none 0 0, by kernel_rfl, by kernel_rfl⟩⟩, td177⟩
theorem td179 : TD Tryz.prog Y_impl_Session 179 := ⟨_, Tryz.underlying179, ⟨Tryz.t179, by kernel_rfl, by kernel_rfl, fun _ => ⟨.agg #[.int .i64 0, .int .i64 0, .int .i64 0], by kernel_rfl, by kernel_rfl⟩⟩, ⟨rfl, by decide, td3, ⟨rfl, by decide, td3, ⟨rfl, by decide, td3, trivial⟩⟩⟩, by kernel_rfl, by kernel_rfl⟩
theorem td103 : TD Tryz.prog (.sl Y_impl_Session) 103 := ⟨179, Tryz.underlying103, ⟨Tryz.t103, by kernel_rfl, by kernel_rfl, fun _ => ⟨.slice none 0 0, by kernel_rfl, by kernel_rfl⟩⟩, td179⟩
theorem td105 : TD Tryz.prog Y_impl_State 105 := ⟨_, Tryz.underlying105, ⟨Tryz.t105, by kernel_rfl, by kernel_rfl, fun _ => ⟨.agg #[.string ⟨#[]⟩, .string ⟨#[]⟩, .slice none 0 0, .slice none 0 0, .bool false, .string ⟨#[]⟩], by kernel_rfl, by kernel_rfl⟩⟩, ⟨rfl, by decide, td101, ⟨rfl, by decide, td102, ⟨rfl, by decide, td103, ⟨rfl, by decide, td4, ⟨rfl, by decide, td9, trivial⟩⟩⟩⟩⟩, by kernel_rfl, by kernel_rfl⟩
theorem td106 : TD Tryz.prog Y_impl_Config 106 := ⟨_, Tryz.underlying106, ⟨Tryz.t106, by kernel_rfl, by kernel_rfl, fun _ => ⟨.agg #[.int .i64 0, .slice none 0 0, .bool false], by kernel_rfl, by kernel_rfl⟩⟩, ⟨rfl, by decide, td3, ⟨rfl, by decide, td78, ⟨rfl, by decide, td4, trivial⟩⟩⟩, by kernel_rfl, by kernel_rfl⟩
theorem td115 : TD Tryz.prog Y_impl_Command 115 := ⟨_, Tryz.underlying115, ⟨Tryz.t115, by kernel_rfl, by kernel_rfl, fun _ => ⟨.agg #[.int .i64 0, .string ⟨#[]⟩, .int .i64 0, .int .i64 0], by kernel_rfl, by kernel_rfl⟩⟩, ⟨rfl, by decide, td3, ⟨rfl, by decide, td9, ⟨rfl, by decide, td3, ⟨rfl, by decide, td3, trivial⟩⟩⟩⟩, by kernel_rfl, by kernel_rfl⟩
theorem td159 : TD Tryz.prog Y_impl_Entry 159 := ⟨_, Tryz.underlying159, ⟨Tryz.t159, by kernel_rfl, by kernel_rfl, fun _ => ⟨.agg #[.int .i64 0, .int .i64 0, .int .i64 0, .string ⟨#[]⟩, .int .i64 0, .int .i64 0], by kernel_rfl, by kernel_rfl⟩⟩, ⟨rfl, by decide, td3, ⟨rfl, by decide, td3, ⟨rfl, by decide, td115, trivial⟩⟩⟩, by kernel_rfl, by kernel_rfl⟩
theorem td152 : TD Tryz.prog (.sl Y_impl_Entry) 152 := ⟨159, Tryz.underlying152, ⟨Tryz.t152, by kernel_rfl, by kernel_rfl, fun _ => ⟨.slice none 0 0, by kernel_rfl, by kernel_rfl⟩⟩, td159⟩
theorem td154 : TD Tryz.prog Y_impl_Replica 154 := ⟨_, Tryz.underlying154, ⟨Tryz.t154, by kernel_rfl, by kernel_rfl, fun _ => ⟨.agg #[.int .i64 0, .slice none 0 0, .bool false, .bool false, .slice none 0 0], by kernel_rfl, by kernel_rfl⟩⟩, ⟨rfl, by decide, td106, ⟨rfl, by decide, td4, ⟨rfl, by decide, td152, trivial⟩⟩⟩, by kernel_rfl, by kernel_rfl⟩
theorem td107 : TD Tryz.prog (.sl Y_impl_Replica) 107 := ⟨154, Tryz.underlying107, ⟨Tryz.t107, by kernel_rfl, by kernel_rfl, fun _ => ⟨.slice none 0 0, by kernel_rfl, by kernel_rfl⟩⟩, td154⟩
theorem td156 : TD Tryz.prog Y_impl_Message 156 := ⟨_, Tryz.underlying156, ⟨Tryz.t156, by kernel_rfl, by kernel_rfl, fun _ => ⟨.agg #[.int .i64 0, .int .i64 0, .int .i64 0, .int .i64 0, .slice none 0 0, .bool false, .slice none 0 0], by kernel_rfl, by kernel_rfl⟩⟩, ⟨rfl, by decide, td3, ⟨rfl, by decide, td3, ⟨rfl, by decide, td3, ⟨rfl, by decide, td106, ⟨rfl, by decide, td152, trivial⟩⟩⟩⟩⟩, by kernel_rfl, by kernel_rfl⟩
theorem td108 : TD Tryz.prog (.sl Y_impl_Message) 108 := ⟨156, Tryz.underlying108, ⟨Tryz.t108, by kernel_rfl, by kernel_rfl, fun _ => ⟨.slice none 0 0, by kernel_rfl, by kernel_rfl⟩⟩, td156⟩
theorem td161 : TD Tryz.prog Y_impl_Answer 161 := ⟨_, Tryz.underlying161, ⟨Tryz.t161, by kernel_rfl, by kernel_rfl, fun _ => ⟨.agg #[.int .i64 0, .int .i64 0, .int .i64 0, .string ⟨#[]⟩, .int .i64 0, .int .i64 0, .int .i64 0], by kernel_rfl, by kernel_rfl⟩⟩, ⟨rfl, by decide, td159, ⟨rfl, by decide, td3, trivial⟩⟩, by kernel_rfl, by kernel_rfl⟩
theorem td109 : TD Tryz.prog (.sl Y_impl_Answer) 109 := ⟨161, Tryz.underlying109, ⟨Tryz.t109, by kernel_rfl, by kernel_rfl, fun _ => ⟨.slice none 0 0, by kernel_rfl, by kernel_rfl⟩⟩, td161⟩
theorem td111 : TD Tryz.prog Y_impl_Chain 111 := ⟨_, Tryz.underlying111, ⟨Tryz.t111, by kernel_rfl, by kernel_rfl, fun _ => ⟨.agg #[.string ⟨#[]⟩, .string ⟨#[]⟩, .slice none 0 0, .slice none 0 0, .bool false, .string ⟨#[]⟩, .int .i64 0, .slice none 0 0, .bool false, .slice none 0 0, .slice none 0 0, .slice none 0 0, .slice none 0 0], by kernel_rfl, by kernel_rfl⟩⟩, ⟨rfl, by decide, td105, ⟨rfl, by decide, td106, ⟨rfl, by decide, td107, ⟨rfl, by decide, td82, ⟨rfl, by decide, td108, ⟨rfl, by decide, td109, trivial⟩⟩⟩⟩⟩⟩, by kernel_rfl, by kernel_rfl⟩
theorem td113 : TD Tryz.prog Y_impl_Shard 113 := ⟨_, Tryz.underlying113, ⟨Tryz.t113, by kernel_rfl, by kernel_rfl, fun _ => ⟨.agg #[.bool false, .string ⟨#[]⟩, .string ⟨#[]⟩, .slice none 0 0, .slice none 0 0, .bool false, .string ⟨#[]⟩, .int .i64 0, .slice none 0 0, .bool false, .slice none 0 0, .slice none 0 0, .slice none 0 0, .slice none 0 0], by kernel_rfl, by kernel_rfl⟩⟩, ⟨rfl, by decide, td4, ⟨rfl, by decide, td111, trivial⟩⟩, by kernel_rfl, by kernel_rfl⟩
theorem td35 : TD Tryz.prog (.sl Y_impl_Shard) 35 := ⟨113, Tryz.underlying35, ⟨Tryz.t35, by kernel_rfl, by kernel_rfl, fun _ => ⟨.slice none 0 0, by kernel_rfl, by kernel_rfl⟩⟩, td113⟩
theorem td132 : TD Tryz.prog Y_impl_Route 132 := ⟨_, Tryz.underlying132, ⟨Tryz.t132, by kernel_rfl, by kernel_rfl, fun _ => ⟨.agg #[.int .i64 0, .string ⟨#[]⟩, .string ⟨#[]⟩], by kernel_rfl, by kernel_rfl⟩⟩, ⟨rfl, by decide, td3, ⟨rfl, by decide, td101, trivial⟩⟩, by kernel_rfl, by kernel_rfl⟩
theorem td44 : TD Tryz.prog (.sl Y_impl_Route) 44 := ⟨132, Tryz.underlying44, ⟨Tryz.t44, by kernel_rfl, by kernel_rfl, fun _ => ⟨.slice none 0 0, by kernel_rfl, by kernel_rfl⟩⟩, td132⟩
theorem td117 : TD Tryz.prog Y_impl_Caller 117 := ⟨_, Tryz.underlying117, ⟨Tryz.t117, by kernel_rfl, by kernel_rfl, fun _ => ⟨.agg #[.slice none 0 0, .int .i64 0, .bool false, .int .i64 0, .string ⟨#[]⟩, .int .i64 0, .int .i64 0, .int .i64 0], by kernel_rfl, by kernel_rfl⟩⟩, ⟨rfl, by decide, td44, ⟨rfl, by decide, td3, ⟨rfl, by decide, td4, ⟨rfl, by decide, td115, ⟨rfl, by decide, td3, trivial⟩⟩⟩⟩⟩, by kernel_rfl, by kernel_rfl⟩
theorem td36 : TD Tryz.prog (.sl Y_impl_Caller) 36 := ⟨117, Tryz.underlying36, ⟨Tryz.t36, by kernel_rfl, by kernel_rfl, fun _ => ⟨.slice none 0 0, by kernel_rfl, by kernel_rfl⟩⟩, td117⟩
theorem td120 : TD Tryz.prog Y_impl_Result 120 := ⟨_, Tryz.underlying120, ⟨Tryz.t120, by kernel_rfl, by kernel_rfl, fun _ => ⟨.agg #[.int .i64 0, .int .i64 0, .int .i64 0, .string ⟨#[]⟩, .int .i64 0, .int .i64 0, .int .i64 0, .int .i64 0, .int .i64 0], by kernel_rfl, by kernel_rfl⟩⟩, ⟨rfl, by decide, td3, ⟨rfl, by decide, td3, ⟨rfl, by decide, td115, ⟨rfl, by decide, td3, ⟨rfl, by decide, td3, ⟨rfl, by decide, td3, trivial⟩⟩⟩⟩⟩⟩, by kernel_rfl, by kernel_rfl⟩
theorem td37 : TD Tryz.prog (.sl Y_impl_Result) 37 := ⟨120, Tryz.underlying37, ⟨Tryz.t37, by kernel_rfl, by kernel_rfl, fun _ => ⟨.slice none 0 0, by kernel_rfl, by kernel_rfl⟩⟩, td120⟩
theorem td39 : TD Tryz.prog Y_impl_Cluster 39 := ⟨_, Tryz.underlying39, ⟨Tryz.t39, by kernel_rfl, by kernel_rfl, fun _ => ⟨.agg #[.slice none 0 0, .slice none 0 0, .slice none 0 0, .int .i64 0, .int .i64 0, .int .i64 0, .string ⟨#[]⟩, .int .i64 0, .int .i64 0, .int .i64 0, .int .i64 0, .int .i64 0], by kernel_rfl, by kernel_rfl⟩⟩, ⟨rfl, by decide, td35, ⟨rfl, by decide, td36, ⟨rfl, by decide, td37, ⟨rfl, by decide, td30, ⟨rfl, by decide, td3, ⟨rfl, by decide, td3, trivial⟩⟩⟩⟩⟩⟩, by kernel_rfl, by kernel_rfl⟩
theorem td46 : TD Tryz.prog Y_impl_Master 46 := ⟨_, Tryz.underlying46, ⟨Tryz.t46, by kernel_rfl, by kernel_rfl, fun _ => ⟨.agg #[.slice none 0 0, .int .i64 0, .int .i64 0, .int .i64 0, .int .i64 0, .string ⟨#[]⟩, .int .i64 0, .int .i64 0, .int .i64 0, .int .i64 0], by kernel_rfl, by kernel_rfl⟩⟩, ⟨rfl, by decide, td44, ⟨rfl, by decide, td3, ⟨rfl, by decide, td30, ⟨rfl, by decide, td3, trivial⟩⟩⟩⟩, by kernel_rfl, by kernel_rfl⟩
theorem td163 : TD Tryz.prog (.sl Y_impl_Interval) 163 := ⟨101, Tryz.underlying163, ⟨Tryz.t163, by kernel_rfl, by kernel_rfl, fun _ => ⟨.slice none 0 0, by kernel_rfl, by kernel_rfl⟩⟩, td101⟩
theorem td175 : TD Tryz.prog (.sl (.int .u8)) 175 := ⟨5, Tryz.underlying175, ⟨Tryz.t175, by kernel_rfl, by kernel_rfl, fun _ => ⟨.slice none 0 0, by kernel_rfl, by kernel_rfl⟩⟩, td5⟩
theorem td243 : TD Tryz.prog (.int .u64) 243 := ⟨Tryz.underlying243, ⟨Tryz.t243, by kernel_rfl, by kernel_rfl, fun _ => ⟨.int .u64 0, by kernel_rfl, by kernel_rfl⟩⟩⟩
theorem tb_all : AllP (fun t (ti : TI) => TD Tryz.prog ti.ty t ∧ ∀ a, ti.ty = .sl a → ∃ e i, Tryz.prog.underlying t = some (.slice e) ∧ Tryz.prog.info? e = some i ∧ i.bytes = ti.eb) TBl := ⟨⟨td3, fun _ h => by cases h⟩, ⟨⟨td4, fun _ h => by cases h⟩, ⟨⟨td5, fun _ h => by cases h⟩, ⟨⟨td9, fun _ h => by cases h⟩, ⟨⟨td22, fun _ h => ⟨88, Tryz.t88, Tryz.underlying22, by kernel_rfl, by kernel_rfl⟩⟩, ⟨⟨td23, fun _ h => ⟨94, Tryz.t94, Tryz.underlying23, by kernel_rfl, by kernel_rfl⟩⟩, ⟨⟨td24, fun _ h => ⟨97, Tryz.t97, Tryz.underlying24, by kernel_rfl, by kernel_rfl⟩⟩, ⟨⟨td26, fun _ h => by cases h⟩, ⟨⟨td28, fun _ h => by cases h⟩, ⟨⟨td30, fun _ h => by cases h⟩, ⟨⟨td35, fun _ h => ⟨113, Tryz.t113, Tryz.underlying35, by kernel_rfl, by kernel_rfl⟩⟩, ⟨⟨td36, fun _ h => ⟨117, Tryz.t117, Tryz.underlying36, by kernel_rfl, by kernel_rfl⟩⟩, ⟨⟨td37, fun _ h => ⟨120, Tryz.t120, Tryz.underlying37, by kernel_rfl, by kernel_rfl⟩⟩, ⟨⟨td39, fun _ h => by cases h⟩, ⟨⟨td44, fun _ h => ⟨132, Tryz.t132, Tryz.underlying44, by kernel_rfl, by kernel_rfl⟩⟩, ⟨⟨td46, fun _ h => by cases h⟩, ⟨⟨td73, fun _ h => by cases h⟩, ⟨⟨td74, fun _ h => ⟨245, Tryz.t245, Tryz.underlying74, by kernel_rfl, by kernel_rfl⟩⟩, ⟨⟨td75, fun _ h => ⟨250, Tryz.t250, Tryz.underlying75, by kernel_rfl, by kernel_rfl⟩⟩, ⟨⟨td77, fun _ h => by cases h⟩, ⟨⟨td78, fun _ h => ⟨3, Tryz.t3, Tryz.underlying78, by kernel_rfl, by kernel_rfl⟩⟩, ⟨⟨td80, fun _ h => by cases h⟩, ⟨⟨td81, fun _ h => ⟨220, Tryz.t220, Tryz.underlying81, by kernel_rfl, by kernel_rfl⟩⟩, ⟨⟨td82, fun _ h => ⟨4, Tryz.t4, Tryz.underlying82, by kernel_rfl, by kernel_rfl⟩⟩, ⟨⟨td83, fun _ h => ⟨223, Tryz.t223, Tryz.underlying83, by kernel_rfl, by kernel_rfl⟩⟩, ⟨⟨td84, fun _ h => ⟨228, Tryz.t228, Tryz.underlying84, by kernel_rfl, by kernel_rfl⟩⟩, ⟨⟨td86, fun _ h => by cases h⟩, ⟨⟨td88, fun _ h => by cases h⟩, ⟨⟨td90, fun _ h => ⟨188, Tryz.t188, Tryz.underlying90, by kernel_rfl, by kernel_rfl⟩⟩, ⟨⟨td92, fun _ h => by cases h⟩, ⟨⟨td94, fun _ h => by cases h⟩, ⟨⟨td97, fun _ h => by cases h⟩, ⟨⟨td101, fun _ h => by cases h⟩, ⟨⟨td102, fun _ h => ⟨177, Tryz.t177, Tryz.underlying102, by kernel_rfl, by kernel_rfl⟩⟩, ⟨⟨td103, fun _ h => ⟨179, Tryz.t179, Tryz.underlying103, by kernel_rfl, by kernel_rfl⟩⟩, ⟨⟨td105, fun _ h => by cases h⟩, ⟨⟨td106, fun _ h => by cases h⟩, ⟨⟨td107, fun _ h => ⟨154, Tryz.t154, Tryz.underlying107, by kernel_rfl, by kernel_rfl⟩⟩, ⟨⟨td108, fun _ h => ⟨156, Tryz.t156, Tryz.underlying108, by kernel_rfl, by kernel_rfl⟩⟩, ⟨⟨td109, fun _ h => ⟨161, Tryz.t161, Tryz.underlying109, by kernel_rfl, by kernel_rfl⟩⟩, ⟨⟨td111, fun _ h => by cases h⟩, ⟨⟨td113, fun _ h => by cases h⟩, ⟨⟨td115, fun _ h => by cases h⟩, ⟨⟨td117, fun _ h => by cases h⟩, ⟨⟨td120, fun _ h => by cases h⟩, ⟨⟨td132, fun _ h => by cases h⟩, ⟨⟨td152, fun _ h => ⟨159, Tryz.t159, Tryz.underlying152, by kernel_rfl, by kernel_rfl⟩⟩, ⟨⟨td154, fun _ h => by cases h⟩, ⟨⟨td156, fun _ h => by cases h⟩, ⟨⟨td159, fun _ h => by cases h⟩, ⟨⟨td161, fun _ h => by cases h⟩, ⟨⟨td163, fun _ h => ⟨101, Tryz.t101, Tryz.underlying163, by kernel_rfl, by kernel_rfl⟩⟩, ⟨⟨td175, fun _ h => ⟨5, Tryz.t5, Tryz.underlying175, by kernel_rfl, by kernel_rfl⟩⟩, ⟨⟨td177, fun _ h => by cases h⟩, ⟨⟨td179, fun _ h => by cases h⟩, ⟨⟨td188, fun _ h => by cases h⟩, ⟨⟨td218, fun _ h => ⟨226, Tryz.t226, Tryz.underlying218, by kernel_rfl, by kernel_rfl⟩⟩, ⟨⟨td220, fun _ h => by cases h⟩, ⟨⟨td223, fun _ h => by cases h⟩, ⟨⟨td226, fun _ h => by cases h⟩, ⟨⟨td228, fun _ h => by cases h⟩, ⟨⟨td243, fun _ h => by cases h⟩, ⟨⟨td245, fun _ h => by cases h⟩, ⟨⟨td250, fun _ h => by cases h⟩, trivial⟩⟩⟩⟩⟩⟩⟩⟩⟩⟩⟩⟩⟩⟩⟩⟩⟩⟩⟩⟩⟩⟩⟩⟩⟩⟩⟩⟩⟩⟩⟩⟩⟩⟩⟩⟩⟩⟩⟩⟩⟩⟩⟩⟩⟩⟩⟩⟩⟩⟩⟩⟩⟩⟩⟩⟩⟩⟩⟩⟩⟩⟩⟩⟩
theorem ft_all : AllP (fun f (fn : Func) => Tryz.prog.funcs[f]? = some fn ∧ (fn.name == "runtime.NumGoroutine") = false) FTl := ⟨⟨Tryz.func4, by kernel_rfl⟩, ⟨⟨Tryz.func5, by kernel_rfl⟩, ⟨⟨Tryz.func7, by kernel_rfl⟩, ⟨⟨Tryz.func10, by kernel_rfl⟩, ⟨⟨Tryz.func11, by kernel_rfl⟩, ⟨⟨Tryz.func12, by kernel_rfl⟩, ⟨⟨Tryz.func13, by kernel_rfl⟩, ⟨⟨Tryz.func14, by kernel_rfl⟩, ⟨⟨Tryz.func15, by kernel_rfl⟩, ⟨⟨Tryz.func16, by kernel_rfl⟩, ⟨⟨Tryz.func17, by kernel_rfl⟩, ⟨⟨Tryz.func18, by kernel_rfl⟩, ⟨⟨Tryz.func19, by kernel_rfl⟩, ⟨⟨Tryz.func20, by kernel_rfl⟩, ⟨⟨Tryz.func21, by kernel_rfl⟩, ⟨⟨Tryz.func22, by kernel_rfl⟩, ⟨⟨Tryz.func23, by kernel_rfl⟩, ⟨⟨Tryz.func24, by kernel_rfl⟩, ⟨⟨Tryz.func25, by kernel_rfl⟩, ⟨⟨Tryz.func26, by kernel_rfl⟩, ⟨⟨Tryz.func27, by kernel_rfl⟩, ⟨⟨Tryz.func28, by kernel_rfl⟩, ⟨⟨Tryz.func29, by kernel_rfl⟩, ⟨⟨Tryz.func30, by kernel_rfl⟩, ⟨⟨Tryz.func31, by kernel_rfl⟩, ⟨⟨Tryz.func32, by kernel_rfl⟩, ⟨⟨Tryz.func33, by kernel_rfl⟩, ⟨⟨Tryz.func34, by kernel_rfl⟩, ⟨⟨Tryz.func35, by kernel_rfl⟩, ⟨⟨Tryz.func36, by kernel_rfl⟩, ⟨⟨Tryz.func37, by kernel_rfl⟩, ⟨⟨Tryz.func38, by kernel_rfl⟩, ⟨⟨Tryz.func39, by kernel_rfl⟩, ⟨⟨Tryz.func40, by kernel_rfl⟩, ⟨⟨Tryz.func41, by kernel_rfl⟩, ⟨⟨Tryz.func42, by kernel_rfl⟩, ⟨⟨Tryz.func43, by kernel_rfl⟩, ⟨⟨Tryz.func44, by kernel_rfl⟩, ⟨⟨Tryz.func45, by kernel_rfl⟩, ⟨⟨Tryz.func46, by kernel_rfl⟩, ⟨⟨Tryz.func47, by kernel_rfl⟩, ⟨⟨Tryz.func48, by kernel_rfl⟩, ⟨⟨Tryz.func49, by kernel_rfl⟩, ⟨⟨Tryz.func50, by kernel_rfl⟩, ⟨⟨Tryz.func51, by kernel_rfl⟩, ⟨⟨Tryz.func52, by kernel_rfl⟩, ⟨⟨Tryz.func53, by kernel_rfl⟩, ⟨⟨Tryz.func54, by kernel_rfl⟩, ⟨⟨Tryz.func55, by kernel_rfl⟩, ⟨⟨Tryz.func56, by kernel_rfl⟩, ⟨⟨Tryz.func57, by kernel_rfl⟩, ⟨⟨Tryz.func58, by kernel_rfl⟩, ⟨⟨Tryz.func59, by kernel_rfl⟩, ⟨⟨Tryz.func60, by kernel_rfl⟩, ⟨⟨Tryz.func61, by kernel_rfl⟩, ⟨⟨Tryz.func62, by kernel_rfl⟩, ⟨⟨Tryz.func63, by kernel_rfl⟩, ⟨⟨Tryz.func64, by kernel_rfl⟩, ⟨⟨Tryz.func65, by kernel_rfl⟩, ⟨⟨Tryz.func66, by kernel_rfl⟩, ⟨⟨Tryz.func67, by kernel_rfl⟩, ⟨⟨Tryz.func68, by kernel_rfl⟩, ⟨⟨Tryz.func69, by kernel_rfl⟩, ⟨⟨Tryz.func70, by kernel_rfl⟩, ⟨⟨Tryz.func71, by kernel_rfl⟩, ⟨⟨Tryz.func72, by kernel_rfl⟩, ⟨⟨Tryz.func73, by kernel_rfl⟩, ⟨⟨Tryz.func74, by kernel_rfl⟩, ⟨⟨Tryz.func75, by kernel_rfl⟩, ⟨⟨Tryz.func76, by kernel_rfl⟩, ⟨⟨Tryz.func77, by kernel_rfl⟩, ⟨⟨Tryz.func78, by kernel_rfl⟩, ⟨⟨Tryz.func79, by kernel_rfl⟩, ⟨⟨Tryz.func80, by kernel_rfl⟩, ⟨⟨Tryz.func81, by kernel_rfl⟩, ⟨⟨Tryz.func82, by kernel_rfl⟩, ⟨⟨Tryz.func83, by kernel_rfl⟩, ⟨⟨Tryz.func84, by kernel_rfl⟩, ⟨⟨Tryz.func85, by kernel_rfl⟩, ⟨⟨Tryz.func86, by kernel_rfl⟩, ⟨⟨Tryz.func87, by kernel_rfl⟩, ⟨⟨Tryz.func88, by kernel_rfl⟩, ⟨⟨Tryz.func89, by kernel_rfl⟩, ⟨⟨Tryz.func90, by kernel_rfl⟩, ⟨⟨Tryz.func91, by kernel_rfl⟩, ⟨⟨Tryz.func92, by kernel_rfl⟩, ⟨⟨Tryz.func93, by kernel_rfl⟩, ⟨⟨Tryz.func94, by kernel_rfl⟩, ⟨⟨Tryz.func95, by kernel_rfl⟩, ⟨⟨Tryz.func96, by kernel_rfl⟩, ⟨⟨Tryz.func97, by kernel_rfl⟩, ⟨⟨Tryz.func98, by kernel_rfl⟩, ⟨⟨Tryz.func99, by kernel_rfl⟩, ⟨⟨Tryz.func100, by kernel_rfl⟩, ⟨⟨Tryz.func101, by kernel_rfl⟩, ⟨⟨Tryz.func102, by kernel_rfl⟩, ⟨⟨Tryz.func103, by kernel_rfl⟩, ⟨⟨Tryz.func104, by kernel_rfl⟩, ⟨⟨Tryz.func105, by kernel_rfl⟩, ⟨⟨Tryz.func106, by kernel_rfl⟩, ⟨⟨Tryz.func107, by kernel_rfl⟩, ⟨⟨Tryz.func108, by kernel_rfl⟩, ⟨⟨Tryz.func109, by kernel_rfl⟩, ⟨⟨Tryz.func110, by kernel_rfl⟩, ⟨⟨Tryz.func111, by kernel_rfl⟩, ⟨⟨Tryz.func112, by kernel_rfl⟩, ⟨⟨Tryz.func113, by kernel_rfl⟩, ⟨⟨Tryz.func114, by kernel_rfl⟩, ⟨⟨Tryz.func115, by kernel_rfl⟩, ⟨⟨Tryz.func116, by kernel_rfl⟩, ⟨⟨Tryz.func117, by kernel_rfl⟩, ⟨⟨Tryz.func118, by kernel_rfl⟩, ⟨⟨Tryz.func119, by kernel_rfl⟩, ⟨⟨Tryz.func120, by kernel_rfl⟩, ⟨⟨Tryz.func121, by kernel_rfl⟩, ⟨⟨Tryz.func122, by kernel_rfl⟩, ⟨⟨Tryz.func123, by kernel_rfl⟩, ⟨⟨Tryz.func124, by kernel_rfl⟩, ⟨⟨Tryz.func125, by kernel_rfl⟩, ⟨⟨Tryz.func126, by kernel_rfl⟩, ⟨⟨Tryz.func127, by kernel_rfl⟩, ⟨⟨Tryz.func128, by kernel_rfl⟩, ⟨⟨Tryz.func129, by kernel_rfl⟩, ⟨⟨Tryz.func130, by kernel_rfl⟩, ⟨⟨Tryz.func131, by kernel_rfl⟩, ⟨⟨Tryz.func132, by kernel_rfl⟩, ⟨⟨Tryz.func133, by kernel_rfl⟩, ⟨⟨Tryz.func134, by kernel_rfl⟩, ⟨⟨Tryz.func135, by kernel_rfl⟩, ⟨⟨Tryz.func136, by kernel_rfl⟩, ⟨⟨Tryz.func137, by kernel_rfl⟩, ⟨⟨Tryz.func138, by kernel_rfl⟩, ⟨⟨Tryz.func139, by kernel_rfl⟩, ⟨⟨Tryz.func140, by kernel_rfl⟩, ⟨⟨Tryz.func141, by kernel_rfl⟩, ⟨⟨Tryz.func142, by kernel_rfl⟩, ⟨⟨Tryz.func143, by kernel_rfl⟩, ⟨⟨Tryz.func144, by kernel_rfl⟩, ⟨⟨Tryz.func145, by kernel_rfl⟩, ⟨⟨Tryz.func146, by kernel_rfl⟩, ⟨⟨Tryz.func147, by kernel_rfl⟩, ⟨⟨Tryz.func148, by kernel_rfl⟩, ⟨⟨Tryz.func149, by kernel_rfl⟩, ⟨⟨Tryz.func150, by kernel_rfl⟩, ⟨⟨Tryz.func151, by kernel_rfl⟩, ⟨⟨Tryz.func152, by kernel_rfl⟩, ⟨⟨Tryz.func153, by kernel_rfl⟩, ⟨⟨Tryz.func154, by kernel_rfl⟩, ⟨⟨Tryz.func155, by kernel_rfl⟩, ⟨⟨Tryz.func156, by kernel_rfl⟩, ⟨⟨Tryz.func157, by kernel_rfl⟩, ⟨⟨Tryz.func158, by kernel_rfl⟩, ⟨⟨Tryz.func159, by kernel_rfl⟩, ⟨⟨Tryz.func160, by kernel_rfl⟩, ⟨⟨Tryz.func161, by kernel_rfl⟩, ⟨⟨Tryz.func162, by kernel_rfl⟩, ⟨⟨Tryz.func163, by kernel_rfl⟩, ⟨⟨Tryz.func164, by kernel_rfl⟩, ⟨⟨Tryz.func165, by kernel_rfl⟩, ⟨⟨Tryz.func166, by kernel_rfl⟩, ⟨⟨Tryz.func167, by kernel_rfl⟩, ⟨⟨Tryz.func168, by kernel_rfl⟩, ⟨⟨Tryz.func169, by kernel_rfl⟩, ⟨⟨Tryz.func170, by kernel_rfl⟩, ⟨⟨Tryz.func171, by kernel_rfl⟩, ⟨⟨Tryz.func172, by kernel_rfl⟩, ⟨⟨Tryz.func173, by kernel_rfl⟩, ⟨⟨Tryz.func174, by kernel_rfl⟩, ⟨⟨Tryz.func175, by kernel_rfl⟩, ⟨⟨Tryz.func176, by kernel_rfl⟩, ⟨⟨Tryz.func177, by kernel_rfl⟩, ⟨⟨Tryz.func178, by kernel_rfl⟩, ⟨⟨Tryz.func179, by kernel_rfl⟩, ⟨⟨Tryz.func180, by kernel_rfl⟩, ⟨⟨Tryz.func181, by kernel_rfl⟩, ⟨⟨Tryz.func182, by kernel_rfl⟩, ⟨⟨Tryz.func183, by kernel_rfl⟩, ⟨⟨Tryz.func184, by kernel_rfl⟩, ⟨⟨Tryz.func185, by kernel_rfl⟩, ⟨⟨Tryz.func186, by kernel_rfl⟩, ⟨⟨Tryz.func187, by kernel_rfl⟩, ⟨⟨Tryz.func188, by kernel_rfl⟩, ⟨⟨Tryz.func189, by kernel_rfl⟩, ⟨⟨Tryz.func190, by kernel_rfl⟩, ⟨⟨Tryz.func191, by kernel_rfl⟩, ⟨⟨Tryz.func192, by kernel_rfl⟩, ⟨⟨Tryz.func193, by kernel_rfl⟩, ⟨⟨Tryz.func194, by kernel_rfl⟩, trivial⟩⟩⟩⟩⟩⟩⟩⟩⟩⟩⟩⟩⟩⟩⟩⟩⟩⟩⟩⟩⟩⟩⟩⟩⟩⟩⟩⟩⟩⟩⟩⟩⟩⟩⟩⟩⟩⟩⟩⟩⟩⟩⟩⟩⟩⟩⟩⟩⟩⟩⟩⟩⟩⟩⟩⟩⟩⟩⟩⟩⟩⟩⟩⟩⟩⟩⟩⟩⟩⟩⟩⟩⟩⟩⟩⟩⟩⟩⟩⟩⟩⟩⟩⟩⟩⟩⟩⟩⟩⟩⟩⟩⟩⟩⟩⟩⟩⟩⟩⟩⟩⟩⟩⟩⟩⟩⟩⟩⟩⟩⟩⟩⟩⟩⟩⟩⟩⟩⟩⟩⟩⟩⟩⟩⟩⟩⟩⟩⟩⟩⟩⟩⟩⟩⟩⟩⟩⟩⟩⟩⟩⟩⟩⟩⟩⟩⟩⟩⟩⟩⟩⟩⟩⟩⟩⟩⟩⟩⟩⟩⟩⟩⟩⟩⟩⟩⟩⟩⟩⟩⟩⟩⟩⟩⟩⟩⟩⟩⟩⟩⟩⟩⟩⟩⟩⟩⟩⟩
theorem zz : ∀ i, tto i (tz i) = (TR i).dflt
  | 0 => rfl
  | 1 => rfl
  | 2 => rfl
  | 3 => rfl
  | 4 => rfl
  | 5 => rfl
  | 6 => rfl
  | 7 => rfl
  | 8 => rfl
  | 9 => rfl
  | 10 => rfl
  | 11 => rfl
  | 12 => rfl
  | 13 => rfl
  | 14 => rfl
  | 15 => rfl
  | 16 => rfl
  | 17 => rfl
  | 18 => rfl
  | 19 => rfl
  | 20 => rfl
  | 21 => rfl
  | 22 => rfl
  | 23 => rfl
  | 24 => rfl
  | 25 => rfl
  | 26 => rfl
  | 27 => rfl
  | 28 => rfl
  | 29 => rfl
  | 30 => rfl
  | 31 => rfl
  | 32 => rfl
  | 33 => rfl
  | 34 => rfl
  | 35 => rfl
  | 36 => rfl
  | 37 => rfl
  | 38 => rfl
  | 39 => rfl
  | 40 => rfl
  | 41 => rfl
  | 42 => rfl
  | 43 => rfl
  | 44 => rfl
  | 45 => rfl
  | 46 => rfl
  | 47 => rfl
  | 48 => rfl
  | 49 => rfl
  | _ + 50 => rfl
theorem good : Good := ⟨fun _ _ h => look_all ft_all h, fun _ _ h => look_all tb_all h, zz, by kernel_rfl⟩
def lit (l : List UInt8) : ByteArray := ⟨l.toArray⟩
def es : ByteArray := ⟨#[]⟩
/-- What is still to be done from a region on. -/
def conts : Code → List Item → Nat → Option (List Item)
  | .seq a b, k, r => match conts a (.code b :: k) r with
    | some x => some x
    | none => conts b k r
  | .cond _ x y, k, r => match conts x k r with
    | some x => some x
    | none => conts y k r
  | .block l b, k, r => conts b (.inBlock l :: k) r
  | .loop b, k, r => conts b (.inLoop b :: k) r
  | .region i ops draw, k, r => bif Nat.beq i r then some (.code (.region i ops draw) :: k) else none
  | _, _, _ => none
noncomputable def cont (f r : Nat) : List Item := match look f FTl with
  | some fn => match fn.body with
    | some c => (conts c [] r).getD []
    | none => []
  | none => []
end Go.Proofs.YtoiddibdlmcecaaGreat.Ev
