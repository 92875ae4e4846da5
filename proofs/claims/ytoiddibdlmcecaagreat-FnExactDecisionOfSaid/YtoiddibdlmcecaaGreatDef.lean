/- The functions, as limits of the evaluator's runs. No condition. -/
import Derived.Test.YtoiddibdlmcecaaGreatTab
set_option maxRecDepth 100000
set_option linter.unusedVariables false
namespace Go.Proofs.YtoiddibdlmcecaaGreat.Ev
open Go.Proofs.YtoiddibdlmcecaaGreat.Eng
open Go.RowKit (wrap64)
/-- laws.FnExactDecisionOf -/
noncomputable def laws_FnExactDecisionOf (a0 : laws_Cluster) (a1 : laws_Cluster) : Option (Bool × Unit) := lim (.call 3 [⟨Y_laws_Cluster, a0, (.pair (.ro [(10000000, 0)]) (.pair (.ro [(10000000, 0)]) (.pair (.ro [(10000000, 0)]) .lit)))⟩, ⟨Y_laws_Cluster, a1, (.pair (.ro [(10000001, 0)]) (.pair (.ro [(10000001, 0)]) (.pair (.ro [(10000001, 0)]) .lit)))⟩] (.pair .bool .unit) .lit)
/-- laws.eqCluster -/
noncomputable def laws_eqCluster (a0 : impl_Cluster) (a1 : impl_Cluster) : Option (Bool × Unit) := lim (.call 10 [⟨Y_impl_Cluster, a0, (.pair (.ro [(10000000, 0)]) (.pair (.ro [(10000000, 0)]) (.pair (.ro [(10000000, 0)]) .lit)))⟩, ⟨Y_impl_Cluster, a1, (.pair (.ro [(10000001, 0)]) (.pair (.ro [(10000001, 0)]) (.pair (.ro [(10000001, 0)]) .lit)))⟩] (.pair .bool .unit) .lit)
/-- laws.toCluster -/
noncomputable def laws_toCluster (a0 : laws_Cluster) : Option (impl_Cluster × Unit) := lim (.call 7 [⟨Y_laws_Cluster, a0, (.pair (.ro [(10000000, 0)]) (.pair (.ro [(10000000, 0)]) (.pair (.ro [(10000000, 0)]) .lit)))⟩] (.pair Y_impl_Cluster .unit) (.pair (.pair (.own (.pair .lit (.pair (.pair (.pair .lit (.pair (.own .lit) (.pair (.own .lit) .lit))) (.pair (.pair .lit (.pair (.own .lit) .lit)) (.pair (.own (.pair (.pair .lit (.pair (.own .lit) .lit)) (.pair .lit (.pair (.own .lit) .lit)))) (.pair (.own .lit) (.pair (.own (.pair .lit (.pair .lit (.pair .lit (.pair (.pair .lit (.pair (.own .lit) .lit)) (.pair (.own .lit) .lit)))))) (.pair (.own .lit) .lit)))))) .lit))) (.pair (.own (.pair (.own .lit) .lit)) (.pair (.own .lit) .lit))) .lit))
/-- laws.eqDecision -/
noncomputable def laws_eqDecision (a0 : impl_Decision) (a1 : impl_Decision) : Option (Bool × Unit) := lim (.call 9 [⟨Y_impl_Decision, a0, .lit⟩, ⟨Y_impl_Decision, a1, .lit⟩] (.pair .bool .unit) .lit)
/-- impl.DecisionOf -/
noncomputable def impl_DecisionOf (a0 : impl_Cluster) (a1 : impl_Cluster) : Option ((impl_Decision × (Bool × Unit)) × Unit) := lim (.call 8 [⟨Y_impl_Cluster, a0, (.pair (.ro [(10000000, 0)]) (.pair (.ro [(10000000, 0)]) (.pair (.ro [(10000000, 0)]) .lit)))⟩, ⟨Y_impl_Cluster, a1, (.pair (.ro [(10000001, 0)]) (.pair (.ro [(10000001, 0)]) (.pair (.ro [(10000001, 0)]) .lit)))⟩] (.pair (.tc Y_impl_Decision (.tc .bool .unit)) .unit) .lit)
noncomputable def impl_DecisionOf_6 (x7 : Bool) (s0 : impl_Cluster) (s1 : impl_Cluster) (s2 : impl_Decision) (s3 : impl_Plan) : Option ((impl_Decision × (Bool × Unit)) × Unit) := lim (.head 8 (cont 8 6) ⟨[(2, ⟨(.bx Y_impl_Cluster), Ty.dflt (.bx Y_impl_Cluster), (.ref 5000000)⟩), (3, ⟨(.bx Y_impl_Cluster), Ty.dflt (.bx Y_impl_Cluster), (.ref 5000001)⟩), (4, ⟨(.bx Y_impl_Decision), Ty.dflt (.bx Y_impl_Decision), (.ref 5000002)⟩), (6, ⟨(.bx Y_impl_Plan), Ty.dflt (.bx Y_impl_Plan), (.ref 5000003)⟩), (7, ⟨.bool, x7, .lit⟩)], [.live ⟨(.bx Y_impl_Cluster), s0, (.own (.pair (.ro [(10000000, 0)]) (.pair (.ro [(10000000, 0)]) (.pair (.ro [(10000000, 0)]) .lit))))⟩ 0 0, .live ⟨(.bx Y_impl_Cluster), s1, (.own (.pair (.ro [(10000001, 0)]) (.pair (.ro [(10000001, 0)]) (.pair (.ro [(10000001, 0)]) .lit))))⟩ 0 0, .live ⟨(.bx Y_impl_Decision), s2, (.own .lit)⟩ 0 0, .live ⟨(.bx Y_impl_Plan), s3, (.own .lit)⟩ 0 0]⟩ (.pair (.tc Y_impl_Decision (.tc .bool .unit)) .unit) .lit)
noncomputable def impl_DecisionOf_8 (x7 : Bool) (s0 : impl_Cluster) (s1 : impl_Cluster) (s2 : impl_Decision) (s3 : impl_Plan) : Option ((impl_Decision × (Bool × Unit)) × Unit) := lim (.head 8 (cont 8 8) ⟨[(2, ⟨(.bx Y_impl_Cluster), Ty.dflt (.bx Y_impl_Cluster), (.ref 5000000)⟩), (3, ⟨(.bx Y_impl_Cluster), Ty.dflt (.bx Y_impl_Cluster), (.ref 5000001)⟩), (4, ⟨(.bx Y_impl_Decision), Ty.dflt (.bx Y_impl_Decision), (.ref 5000002)⟩), (6, ⟨(.bx Y_impl_Plan), Ty.dflt (.bx Y_impl_Plan), (.ref 5000003)⟩), (7, ⟨.bool, x7, .lit⟩)], [.live ⟨(.bx Y_impl_Cluster), s0, (.own (.pair (.ro [(10000000, 0)]) (.pair (.ro [(10000000, 0)]) (.pair (.ro [(10000000, 0)]) .lit))))⟩ 0 0, .live ⟨(.bx Y_impl_Cluster), s1, (.own (.pair (.ro [(10000001, 0)]) (.pair (.ro [(10000001, 0)]) (.pair (.ro [(10000001, 0)]) .lit))))⟩ 0 0, .live ⟨(.bx Y_impl_Decision), s2, (.own .lit)⟩ 0 0, .live ⟨(.bx Y_impl_Plan), s3, (.own .lit)⟩ 0 0]⟩ (.pair (.tc Y_impl_Decision (.tc .bool .unit)) .unit) .lit)
noncomputable def impl_DecisionOf_10 (s0 : impl_Cluster) (s1 : impl_Cluster) (s2 : impl_Decision) (s3 : impl_Plan) : Option ((impl_Decision × (Bool × Unit)) × Unit) := lim (.head 8 (cont 8 10) ⟨[(2, ⟨(.bx Y_impl_Cluster), Ty.dflt (.bx Y_impl_Cluster), (.ref 5000000)⟩), (3, ⟨(.bx Y_impl_Cluster), Ty.dflt (.bx Y_impl_Cluster), (.ref 5000001)⟩), (4, ⟨(.bx Y_impl_Decision), Ty.dflt (.bx Y_impl_Decision), (.ref 5000002)⟩), (6, ⟨(.bx Y_impl_Plan), Ty.dflt (.bx Y_impl_Plan), (.ref 5000003)⟩)], [.live ⟨(.bx Y_impl_Cluster), s0, (.own (.pair (.ro [(10000000, 0)]) (.pair (.ro [(10000000, 0)]) (.pair (.ro [(10000000, 0)]) .lit))))⟩ 0 0, .live ⟨(.bx Y_impl_Cluster), s1, (.own (.pair (.ro [(10000001, 0)]) (.pair (.ro [(10000001, 0)]) (.pair (.ro [(10000001, 0)]) .lit))))⟩ 0 0, .live ⟨(.bx Y_impl_Decision), s2, (.own .lit)⟩ 0 0, .live ⟨(.bx Y_impl_Plan), s3, (.own .lit)⟩ 0 0]⟩ (.pair (.tc Y_impl_Decision (.tc .bool .unit)) .unit) .lit)
noncomputable def impl_DecisionOf_14 (s0 : impl_Cluster) (s1 : impl_Decision) (s2 : impl_Plan) : Option ((impl_Decision × (Bool × Unit)) × Unit) := lim (.head 8 (cont 8 14) ⟨[(3, ⟨(.bx Y_impl_Cluster), Ty.dflt (.bx Y_impl_Cluster), (.ref 5000000)⟩), (4, ⟨(.bx Y_impl_Decision), Ty.dflt (.bx Y_impl_Decision), (.ref 5000001)⟩), (6, ⟨(.bx Y_impl_Plan), Ty.dflt (.bx Y_impl_Plan), (.ref 5000002)⟩)], [.live ⟨(.bx Y_impl_Cluster), s0, (.own (.pair (.ro [(10000001, 0)]) (.pair (.ro [(10000001, 0)]) (.pair (.ro [(10000001, 0)]) .lit))))⟩ 0 0, .live ⟨(.bx Y_impl_Decision), s1, (.own .lit)⟩ 0 0, .live ⟨(.bx Y_impl_Plan), s2, (.own .lit)⟩ 0 0]⟩ (.pair (.tc Y_impl_Decision (.tc .bool .unit)) .unit) .lit)
/-- spec.DecisionOf -/
noncomputable def spec_DecisionOf (a0 : impl_Cluster) (a1 : impl_Cluster) : Option ((impl_Decision × (Bool × Unit)) × Unit) := lim (.call 6 [⟨Y_impl_Cluster, a0, (.pair (.ro [(10000000, 0)]) (.pair (.ro [(10000000, 0)]) (.pair (.ro [(10000000, 0)]) .lit)))⟩, ⟨Y_impl_Cluster, a1, (.pair (.ro [(10000001, 0)]) (.pair (.ro [(10000001, 0)]) (.pair (.ro [(10000001, 0)]) .lit)))⟩] (.pair (.tc Y_impl_Decision (.tc .bool .unit)) .unit) .lit)
noncomputable def spec_DecisionOf_8 (x6 : Bool) (s0 : impl_Cluster) (s1 : impl_Cluster) (s2 : impl_Decision) : Option ((impl_Decision × (Bool × Unit)) × Unit) := lim (.head 6 (cont 6 8) ⟨[(2, ⟨(.bx Y_impl_Cluster), Ty.dflt (.bx Y_impl_Cluster), (.ref 5000000)⟩), (3, ⟨(.bx Y_impl_Cluster), Ty.dflt (.bx Y_impl_Cluster), (.ref 5000001)⟩), (4, ⟨(.bx Y_impl_Decision), Ty.dflt (.bx Y_impl_Decision), (.ref 5000002)⟩), (6, ⟨.bool, x6, .lit⟩)], [.live ⟨(.bx Y_impl_Cluster), s0, (.own (.pair (.ro [(10000000, 0)]) (.pair (.ro [(10000000, 0)]) (.pair (.ro [(10000000, 0)]) .lit))))⟩ 0 0, .live ⟨(.bx Y_impl_Cluster), s1, (.own (.pair (.ro [(10000001, 0)]) (.pair (.ro [(10000001, 0)]) (.pair (.ro [(10000001, 0)]) .lit))))⟩ 0 0, .live ⟨(.bx Y_impl_Decision), s2, (.own .lit)⟩ 0 0]⟩ (.pair (.tc Y_impl_Decision (.tc .bool .unit)) .unit) .lit)
noncomputable def spec_DecisionOf_10 (x6 : Bool) (s0 : impl_Cluster) (s1 : impl_Cluster) (s2 : impl_Decision) : Option ((impl_Decision × (Bool × Unit)) × Unit) := lim (.head 6 (cont 6 10) ⟨[(2, ⟨(.bx Y_impl_Cluster), Ty.dflt (.bx Y_impl_Cluster), (.ref 5000000)⟩), (3, ⟨(.bx Y_impl_Cluster), Ty.dflt (.bx Y_impl_Cluster), (.ref 5000001)⟩), (4, ⟨(.bx Y_impl_Decision), Ty.dflt (.bx Y_impl_Decision), (.ref 5000002)⟩), (6, ⟨.bool, x6, .lit⟩)], [.live ⟨(.bx Y_impl_Cluster), s0, (.own (.pair (.ro [(10000000, 0)]) (.pair (.ro [(10000000, 0)]) (.pair (.ro [(10000000, 0)]) .lit))))⟩ 0 0, .live ⟨(.bx Y_impl_Cluster), s1, (.own (.pair (.ro [(10000001, 0)]) (.pair (.ro [(10000001, 0)]) (.pair (.ro [(10000001, 0)]) .lit))))⟩ 0 0, .live ⟨(.bx Y_impl_Decision), s2, (.own .lit)⟩ 0 0]⟩ (.pair (.tc Y_impl_Decision (.tc .bool .unit)) .unit) .lit)
noncomputable def spec_DecisionOf_12 (x6 : Bool) (s0 : impl_Cluster) (s1 : impl_Decision) : Option ((impl_Decision × (Bool × Unit)) × Unit) := lim (.head 6 (cont 6 12) ⟨[(3, ⟨(.bx Y_impl_Cluster), Ty.dflt (.bx Y_impl_Cluster), (.ref 5000000)⟩), (4, ⟨(.bx Y_impl_Decision), Ty.dflt (.bx Y_impl_Decision), (.ref 5000001)⟩), (6, ⟨.bool, x6, .lit⟩)], [.live ⟨(.bx Y_impl_Cluster), s0, (.own (.pair (.ro [(10000001, 0)]) (.pair (.ro [(10000001, 0)]) (.pair (.ro [(10000001, 0)]) .lit))))⟩ 0 0, .live ⟨(.bx Y_impl_Decision), s1, (.own .lit)⟩ 0 0]⟩ (.pair (.tc Y_impl_Decision (.tc .bool .unit)) .unit) .lit)
/-- laws.szCluster -/
noncomputable def laws_szCluster (a0 : laws_Cluster) (a1 : Int) : Option (Int × Unit) := lim (.call 5 [⟨Y_laws_Cluster, a0, (.pair (.ro [(10000000, 0)]) (.pair (.ro [(10000000, 0)]) (.pair (.ro [(10000000, 0)]) .lit)))⟩, ⟨(.int .i64), a1, .lit⟩] (.pair (.int .i64) .unit) .lit)
/-- laws.eqPlan -/
noncomputable def laws_eqPlan (a0 : impl_Plan) (a1 : impl_Plan) : Option (Bool × Unit) := lim (.call 27 [⟨Y_impl_Plan, a0, .lit⟩, ⟨Y_impl_Plan, a1, .lit⟩] (.pair .bool .unit) .lit)
/-- laws.eqResultS -/
noncomputable def laws_eqResultS (a0 : (List impl_Result)) (a1 : (List impl_Result)) : Option (Bool × Unit) := lim (.call 30 [⟨(.sl Y_impl_Result), a0, (.ro [(10000000, 0)])⟩, ⟨(.sl Y_impl_Result), a1, (.ro [(10000001, 0)])⟩] (.pair .bool .unit) .lit)
noncomputable def laws_eqResultS_4 (x0 : (List impl_Result)) (x1 : (List impl_Result)) (x5 : Int) : Option (Bool × Unit) := lim (.head 30 (cont 30 4) ⟨[(0, ⟨(.sl Y_impl_Result), x0, (.ro [(10000000, 0)])⟩), (1, ⟨(.sl Y_impl_Result), x1, (.ro [(10000001, 0)])⟩), (5, ⟨(.int .i64), x5, .lit⟩)], []⟩ (.pair .bool .unit) .lit)
/-- laws.eqCallerS -/
noncomputable def laws_eqCallerS (a0 : (List impl_Caller)) (a1 : (List impl_Caller)) : Option (Bool × Unit) := lim (.call 29 [⟨(.sl Y_impl_Caller), a0, (.ro [(10000000, 0)])⟩, ⟨(.sl Y_impl_Caller), a1, (.ro [(10000001, 0)])⟩] (.pair .bool .unit) .lit)
noncomputable def laws_eqCallerS_4 (x0 : (List impl_Caller)) (x1 : (List impl_Caller)) (x5 : Int) : Option (Bool × Unit) := lim (.head 29 (cont 29 4) ⟨[(0, ⟨(.sl Y_impl_Caller), x0, (.ro [(10000000, 0)])⟩), (1, ⟨(.sl Y_impl_Caller), x1, (.ro [(10000001, 0)])⟩), (5, ⟨(.int .i64), x5, .lit⟩)], []⟩ (.pair .bool .unit) .lit)
/-- laws.eqShardS -/
noncomputable def laws_eqShardS (a0 : (List impl_Shard)) (a1 : (List impl_Shard)) : Option (Bool × Unit) := lim (.call 28 [⟨(.sl Y_impl_Shard), a0, (.ro [(10000000, 0)])⟩, ⟨(.sl Y_impl_Shard), a1, (.ro [(10000001, 0)])⟩] (.pair .bool .unit) .lit)
noncomputable def laws_eqShardS_4 (x0 : (List impl_Shard)) (x1 : (List impl_Shard)) (x5 : Int) : Option (Bool × Unit) := lim (.head 28 (cont 28 4) ⟨[(0, ⟨(.sl Y_impl_Shard), x0, (.ro [(10000000, 0)])⟩), (1, ⟨(.sl Y_impl_Shard), x1, (.ro [(10000001, 0)])⟩), (5, ⟨(.int .i64), x5, .lit⟩)], []⟩ (.pair .bool .unit) .lit)
/-- laws.toPlan -/
noncomputable def laws_toPlan (a0 : laws_Plan) : Option (impl_Plan × Unit) := lim (.call 25 [⟨Y_laws_Plan, a0, .lit⟩] (.pair Y_impl_Plan .unit) .lit)
/-- laws.toResultS -/
noncomputable def laws_toResultS (a0 : (List laws_Result)) : Option ((List impl_Result) × Unit) := lim (.call 24 [⟨(.sl Y_laws_Result), a0, (.ro [(10000000, 0)])⟩] (.pair (.sl Y_impl_Result) .unit) (.pair (.own .lit) .lit))
noncomputable def laws_toResultS_3 (x0 : (List laws_Result)) (x4 : Int) (s0 : (List impl_Result)) : Option ((List impl_Result) × Unit) := lim (.head 24 (cont 24 3) ⟨[(0, ⟨(.sl Y_laws_Result), x0, (.ro [(10000000, 0)])⟩), (3, ⟨(.sl Y_impl_Result), Ty.dflt (.sl Y_impl_Result), (.ref 5000000)⟩), (4, ⟨(.int .i64), x4, .lit⟩)], [.live ⟨(.sl Y_impl_Result), s0, (.own .lit)⟩ 0 0]⟩ (.pair (.sl Y_impl_Result) .unit) (.pair (.own .lit) .lit))
/-- laws.toCallerS -/
noncomputable def laws_toCallerS (a0 : (List laws_Caller)) : Option ((List impl_Caller) × Unit) := lim (.call 23 [⟨(.sl Y_laws_Caller), a0, (.ro [(10000000, 0)])⟩] (.pair (.sl Y_impl_Caller) .unit) (.pair (.own (.pair (.own .lit) .lit)) .lit))
noncomputable def laws_toCallerS_3 (x0 : (List laws_Caller)) (x4 : Int) (s0 : (List impl_Caller)) : Option ((List impl_Caller) × Unit) := lim (.head 23 (cont 23 3) ⟨[(0, ⟨(.sl Y_laws_Caller), x0, (.ro [(10000000, 0)])⟩), (3, ⟨(.sl Y_impl_Caller), Ty.dflt (.sl Y_impl_Caller), (.ref 5000000)⟩), (4, ⟨(.int .i64), x4, .lit⟩)], [.live ⟨(.sl Y_impl_Caller), s0, (.own (.pair (.own .lit) .lit))⟩ 0 0]⟩ (.pair (.sl Y_impl_Caller) .unit) (.pair (.own (.pair (.own .lit) .lit)) .lit))
/-- laws.toShardS -/
noncomputable def laws_toShardS (a0 : (List laws_Shard)) : Option ((List impl_Shard) × Unit) := lim (.call 22 [⟨(.sl Y_laws_Shard), a0, (.ro [(10000000, 0)])⟩] (.pair (.sl Y_impl_Shard) .unit) (.pair (.own (.pair .lit (.pair (.pair (.pair .lit (.pair (.own .lit) (.pair (.own .lit) .lit))) (.pair (.pair .lit (.pair (.own .lit) .lit)) (.pair (.own (.pair (.pair .lit (.pair (.own .lit) .lit)) (.pair .lit (.pair (.own .lit) .lit)))) (.pair (.own .lit) (.pair (.own (.pair .lit (.pair .lit (.pair .lit (.pair (.pair .lit (.pair (.own .lit) .lit)) (.pair (.own .lit) .lit)))))) (.pair (.own .lit) .lit)))))) .lit))) .lit))
noncomputable def laws_toShardS_3 (x0 : (List laws_Shard)) (x4 : Int) (s0 : (List impl_Shard)) : Option ((List impl_Shard) × Unit) := lim (.head 22 (cont 22 3) ⟨[(0, ⟨(.sl Y_laws_Shard), x0, (.ro [(10000000, 0)])⟩), (3, ⟨(.sl Y_impl_Shard), Ty.dflt (.sl Y_impl_Shard), (.ref 5000000)⟩), (4, ⟨(.int .i64), x4, .lit⟩)], [.live ⟨(.sl Y_impl_Shard), s0, (.own (.pair .lit (.pair (.pair (.pair .lit (.pair (.own .lit) (.pair (.own .lit) .lit))) (.pair (.pair .lit (.pair (.own .lit) .lit)) (.pair (.own (.pair (.pair .lit (.pair (.own .lit) .lit)) (.pair .lit (.pair (.own .lit) .lit)))) (.pair (.own .lit) (.pair (.own (.pair .lit (.pair .lit (.pair .lit (.pair (.pair .lit (.pair (.own .lit) .lit)) (.pair (.own .lit) .lit)))))) (.pair (.own .lit) .lit)))))) .lit)))⟩ 0 0]⟩ (.pair (.sl Y_impl_Shard) .unit) (.pair (.own (.pair .lit (.pair (.pair (.pair .lit (.pair (.own .lit) (.pair (.own .lit) .lit))) (.pair (.pair .lit (.pair (.own .lit) .lit)) (.pair (.own (.pair (.pair .lit (.pair (.own .lit) .lit)) (.pair .lit (.pair (.own .lit) .lit)))) (.pair (.own .lit) (.pair (.own (.pair .lit (.pair .lit (.pair .lit (.pair (.pair .lit (.pair (.own .lit) .lit)) (.pair (.own .lit) .lit)))))) (.pair (.own .lit) .lit)))))) .lit))) .lit))
/-- impl.ClusterValid -/
noncomputable def impl_ClusterValid (a0 : impl_Cluster) : Option (Bool × Unit) := lim (.call 26 [⟨Y_impl_Cluster, a0, (.pair (.ro [(10000000, 0)]) (.pair (.ro [(10000000, 0)]) (.pair (.ro [(10000000, 0)]) .lit)))⟩] (.pair .bool .unit) .lit)
noncomputable def impl_ClusterValid_4 (x32 : (List impl_Shard)) (x33 : Int) (x34 : Int) (s0 : impl_Cluster) : Option (Bool × Unit) := lim (.head 26 (cont 26 4) ⟨[(1, ⟨(.bx Y_impl_Cluster), Ty.dflt (.bx Y_impl_Cluster), (.ref 5000000)⟩), (32, ⟨(.sl Y_impl_Shard), x32, (.ro [(10000000, 0)])⟩), (33, ⟨(.int .i64), x33, .lit⟩), (34, ⟨(.int .i64), x34, .lit⟩)], [.live ⟨(.bx Y_impl_Cluster), s0, (.own (.pair (.ro [(10000000, 0)]) (.pair (.ro [(10000000, 0)]) (.pair (.ro [(10000000, 0)]) .lit))))⟩ 0 0]⟩ (.pair .bool .unit) .lit)
noncomputable def impl_ClusterValid_10 (x57 : (List impl_Caller)) (x58 : Int) (x59 : Int) (s0 : impl_Cluster) : Option (Bool × Unit) := lim (.head 26 (cont 26 10) ⟨[(1, ⟨(.bx Y_impl_Cluster), Ty.dflt (.bx Y_impl_Cluster), (.ref 5000000)⟩), (57, ⟨(.sl Y_impl_Caller), x57, (.ro [(10000000, 0)])⟩), (58, ⟨(.int .i64), x58, .lit⟩), (59, ⟨(.int .i64), x59, .lit⟩)], [.live ⟨(.bx Y_impl_Cluster), s0, (.own (.pair (.ro [(10000000, 0)]) (.pair (.ro [(10000000, 0)]) (.pair (.ro [(10000000, 0)]) .lit))))⟩ 0 0]⟩ (.pair .bool .unit) .lit)
noncomputable def impl_ClusterValid_16 (x68 : (List impl_Result)) (x69 : Int) (x70 : Int) (s0 : impl_Cluster) : Option (Bool × Unit) := lim (.head 26 (cont 26 16) ⟨[(1, ⟨(.bx Y_impl_Cluster), Ty.dflt (.bx Y_impl_Cluster), (.ref 5000000)⟩), (68, ⟨(.sl Y_impl_Result), x68, (.ro [(10000000, 0)])⟩), (69, ⟨(.int .i64), x69, .lit⟩), (70, ⟨(.int .i64), x70, .lit⟩)], [.live ⟨(.bx Y_impl_Cluster), s0, (.own (.pair (.ro [(10000000, 0)]) (.pair (.ro [(10000000, 0)]) (.pair (.ro [(10000000, 0)]) .lit))))⟩ 0 0]⟩ (.pair .bool .unit) .lit)
/-- spec.ClusterValid -/
noncomputable def spec_ClusterValid (a0 : impl_Cluster) : Option (Bool × Unit) := lim (.call 21 [⟨Y_impl_Cluster, a0, (.pair (.ro [(10000000, 0)]) (.pair (.ro [(10000000, 0)]) (.pair (.ro [(10000000, 0)]) .lit)))⟩] (.pair .bool .unit) .lit)
noncomputable def spec_ClusterValid_4 (x3 : Int) (s0 : impl_Cluster) : Option (Bool × Unit) := lim (.head 21 (cont 21 4) ⟨[(1, ⟨(.bx Y_impl_Cluster), Ty.dflt (.bx Y_impl_Cluster), (.ref 5000000)⟩), (3, ⟨(.int .i64), x3, .lit⟩)], [.live ⟨(.bx Y_impl_Cluster), s0, (.own (.pair (.ro [(10000000, 0)]) (.pair (.ro [(10000000, 0)]) (.pair (.ro [(10000000, 0)]) .lit))))⟩ 0 0]⟩ (.pair .bool .unit) .lit)
noncomputable def spec_ClusterValid_9 (x3 : Int) (x4 : Int) (s0 : impl_Cluster) : Option (Bool × Unit) := lim (.head 21 (cont 21 9) ⟨[(1, ⟨(.bx Y_impl_Cluster), Ty.dflt (.bx Y_impl_Cluster), (.ref 5000000)⟩), (3, ⟨(.int .i64), x3, .lit⟩), (4, ⟨(.int .i64), x4, .lit⟩)], [.live ⟨(.bx Y_impl_Cluster), s0, (.own (.pair (.ro [(10000000, 0)]) (.pair (.ro [(10000000, 0)]) (.pair (.ro [(10000000, 0)]) .lit))))⟩ 0 0]⟩ (.pair .bool .unit) .lit)
noncomputable def spec_ClusterValid_14 (x5 : Int) (s0 : impl_Cluster) : Option (Bool × Unit) := lim (.head 21 (cont 21 14) ⟨[(1, ⟨(.bx Y_impl_Cluster), Ty.dflt (.bx Y_impl_Cluster), (.ref 5000000)⟩), (5, ⟨(.int .i64), x5, .lit⟩)], [.live ⟨(.bx Y_impl_Cluster), s0, (.own (.pair (.ro [(10000000, 0)]) (.pair (.ro [(10000000, 0)]) (.pair (.ro [(10000000, 0)]) .lit))))⟩ 0 0]⟩ (.pair .bool .unit) .lit)
noncomputable def spec_ClusterValid_19 (x6 : Int) (s0 : impl_Cluster) : Option (Bool × Unit) := lim (.head 21 (cont 21 19) ⟨[(1, ⟨(.bx Y_impl_Cluster), Ty.dflt (.bx Y_impl_Cluster), (.ref 5000000)⟩), (6, ⟨(.int .i64), x6, .lit⟩)], [.live ⟨(.bx Y_impl_Cluster), s0, (.own (.pair (.ro [(10000000, 0)]) (.pair (.ro [(10000000, 0)]) (.pair (.ro [(10000000, 0)]) .lit))))⟩ 0 0]⟩ (.pair .bool .unit) .lit)
/-- laws.szPlan -/
noncomputable def laws_szPlan (a0 : laws_Plan) (a1 : Int) : Option (Int × Unit) := lim (.call 20 [⟨Y_laws_Plan, a0, .lit⟩, ⟨(.int .i64), a1, .lit⟩] (.pair (.int .i64) .unit) .lit)
/-- laws.szResultS -/
noncomputable def laws_szResultS (a0 : (List laws_Result)) (a1 : Int) : Option (Int × Unit) := lim (.call 19 [⟨(.sl Y_laws_Result), a0, (.ro [(10000000, 0)])⟩, ⟨(.int .i64), a1, .lit⟩] (.pair (.int .i64) .unit) .lit)
noncomputable def laws_szResultS_5 (x0 : (List laws_Result)) (x1 : Int) (x5 : Int) : Option (Int × Unit) := lim (.head 19 (cont 19 5) ⟨[(0, ⟨(.sl Y_laws_Result), x0, (.ro [(10000000, 0)])⟩), (1, ⟨(.int .i64), x1, .lit⟩), (5, ⟨(.int .i64), x5, .lit⟩)], []⟩ (.pair (.int .i64) .unit) .lit)
/-- laws.szCallerS -/
noncomputable def laws_szCallerS (a0 : (List laws_Caller)) (a1 : Int) : Option (Int × Unit) := lim (.call 18 [⟨(.sl Y_laws_Caller), a0, (.ro [(10000000, 0)])⟩, ⟨(.int .i64), a1, .lit⟩] (.pair (.int .i64) .unit) .lit)
noncomputable def laws_szCallerS_5 (x0 : (List laws_Caller)) (x1 : Int) (x5 : Int) : Option (Int × Unit) := lim (.head 18 (cont 18 5) ⟨[(0, ⟨(.sl Y_laws_Caller), x0, (.ro [(10000000, 0)])⟩), (1, ⟨(.int .i64), x1, .lit⟩), (5, ⟨(.int .i64), x5, .lit⟩)], []⟩ (.pair (.int .i64) .unit) .lit)
/-- laws.szShardS -/
noncomputable def laws_szShardS (a0 : (List laws_Shard)) (a1 : Int) : Option (Int × Unit) := lim (.call 17 [⟨(.sl Y_laws_Shard), a0, (.ro [(10000000, 0)])⟩, ⟨(.int .i64), a1, .lit⟩] (.pair (.int .i64) .unit) .lit)
noncomputable def laws_szShardS_5 (x0 : (List laws_Shard)) (x1 : Int) (x5 : Int) : Option (Int × Unit) := lim (.head 17 (cont 17 5) ⟨[(0, ⟨(.sl Y_laws_Shard), x0, (.ro [(10000000, 0)])⟩), (1, ⟨(.int .i64), x1, .lit⟩), (5, ⟨(.int .i64), x5, .lit⟩)], []⟩ (.pair (.int .i64) .unit) .lit)
/-- laws.eqResult -/
noncomputable def laws_eqResult (a0 : impl_Result) (a1 : impl_Result) : Option (Bool × Unit) := lim (.call 62 [⟨Y_impl_Result, a0, .lit⟩, ⟨Y_impl_Result, a1, .lit⟩] (.pair .bool .unit) .lit)
/-- laws.eqCaller -/
noncomputable def laws_eqCaller (a0 : impl_Caller) (a1 : impl_Caller) : Option (Bool × Unit) := lim (.call 61 [⟨Y_impl_Caller, a0, (.pair (.ro [(10000000, 0)]) .lit)⟩, ⟨Y_impl_Caller, a1, (.pair (.ro [(10000001, 0)]) .lit)⟩] (.pair .bool .unit) .lit)
/-- laws.eqShard -/
noncomputable def laws_eqShard (a0 : impl_Shard) (a1 : impl_Shard) : Option (Bool × Unit) := lim (.call 60 [⟨Y_impl_Shard, a0, (.pair .lit (.pair (.pair (.pair .lit (.pair (.ro [(10000000, 0)]) (.pair (.ro [(10000000, 0)]) .lit))) (.pair (.pair .lit (.pair (.ro [(10000000, 0)]) .lit)) (.pair (.ro [(10000000, 0)]) (.pair (.ro [(10000000, 0)]) (.pair (.ro [(10000000, 0)]) (.pair (.ro [(10000000, 0)]) .lit)))))) .lit))⟩, ⟨Y_impl_Shard, a1, (.pair .lit (.pair (.pair (.pair .lit (.pair (.ro [(10000001, 0)]) (.pair (.ro [(10000001, 0)]) .lit))) (.pair (.pair .lit (.pair (.ro [(10000001, 0)]) .lit)) (.pair (.ro [(10000001, 0)]) (.pair (.ro [(10000001, 0)]) (.pair (.ro [(10000001, 0)]) (.pair (.ro [(10000001, 0)]) .lit)))))) .lit))⟩] (.pair .bool .unit) .lit)
/-- laws.toResult -/
noncomputable def laws_toResult (a0 : laws_Result) : Option (impl_Result × Unit) := lim (.call 51 [⟨Y_laws_Result, a0, .lit⟩] (.pair Y_impl_Result .unit) .lit)
/-- laws.toCaller -/
noncomputable def laws_toCaller (a0 : laws_Caller) : Option (impl_Caller × Unit) := lim (.call 50 [⟨Y_laws_Caller, a0, (.pair (.ro [(10000000, 0)]) .lit)⟩] (.pair Y_impl_Caller .unit) (.pair (.pair (.own .lit) .lit) .lit))
/-- laws.toShard -/
noncomputable def laws_toShard (a0 : laws_Shard) : Option (impl_Shard × Unit) := lim (.call 49 [⟨Y_laws_Shard, a0, (.pair .lit (.pair (.pair (.pair .lit (.pair (.ro [(10000000, 0)]) (.pair (.ro [(10000000, 0)]) .lit))) (.pair (.pair .lit (.pair (.ro [(10000000, 0)]) .lit)) (.pair (.ro [(10000000, 0)]) (.pair (.ro [(10000000, 0)]) (.pair (.ro [(10000000, 0)]) (.pair (.ro [(10000000, 0)]) .lit)))))) .lit))⟩] (.pair Y_impl_Shard .unit) (.pair (.pair .lit (.pair (.pair (.pair .lit (.pair (.own .lit) (.pair (.own .lit) .lit))) (.pair (.pair .lit (.pair (.own .lit) .lit)) (.pair (.own (.pair (.pair .lit (.pair (.own .lit) .lit)) (.pair .lit (.pair (.own .lit) .lit)))) (.pair (.own .lit) (.pair (.own (.pair .lit (.pair .lit (.pair .lit (.pair (.pair .lit (.pair (.own .lit) .lit)) (.pair (.own .lit) .lit)))))) (.pair (.own .lit) .lit)))))) .lit)) .lit))
/-- slices.Equal[[]bool,bool] -/
noncomputable def slices_Equal_sbool_bool (a0 : (List Bool)) (a1 : (List Bool)) : Option (Bool × Unit) := lim (.call 53 [⟨(.sl .bool), a0, (.ro [(10000000, 0)])⟩, ⟨(.sl .bool), a1, (.ro [(10000001, 0)])⟩] (.pair .bool .unit) .lit)
noncomputable def slices_Equal_sbool_bool_4 (x0 : (List Bool)) (x1 : (List Bool)) (x12 : Int) (x13 : Int) : Option (Bool × Unit) := lim (.head 53 (cont 53 4) ⟨[(0, ⟨(.sl .bool), x0, (.ro [(10000000, 0)])⟩), (1, ⟨(.sl .bool), x1, (.ro [(10000001, 0)])⟩), (12, ⟨(.int .i64), x12, .lit⟩), (13, ⟨(.int .i64), x13, .lit⟩)], []⟩ (.pair .bool .unit) .lit)
/-- impl.ChainValid -/
noncomputable def impl_ChainValid (a0 : impl_Chain) : Option (Bool × Unit) := lim (.call 52 [⟨Y_impl_Chain, a0, (.pair (.pair .lit (.pair (.ro [(10000000, 0)]) (.pair (.ro [(10000000, 0)]) .lit))) (.pair (.pair .lit (.pair (.ro [(10000000, 0)]) .lit)) (.pair (.ro [(10000000, 0)]) (.pair (.ro [(10000000, 0)]) (.pair (.ro [(10000000, 0)]) (.pair (.ro [(10000000, 0)]) .lit))))))⟩] (.pair .bool .unit) .lit)
noncomputable def impl_ChainValid_4 (x36 : (List impl_Replica)) (x37 : Int) (x38 : Int) (s0 : impl_Chain) : Option (Bool × Unit) := lim (.head 52 (cont 52 4) ⟨[(1, ⟨(.bx Y_impl_Chain), Ty.dflt (.bx Y_impl_Chain), (.ref 5000000)⟩), (36, ⟨(.sl Y_impl_Replica), x36, (.ro [(10000000, 0)])⟩), (37, ⟨(.int .i64), x37, .lit⟩), (38, ⟨(.int .i64), x38, .lit⟩)], [.live ⟨(.bx Y_impl_Chain), s0, (.own (.pair (.pair .lit (.pair (.ro [(10000000, 0)]) (.pair (.ro [(10000000, 0)]) .lit))) (.pair (.pair .lit (.pair (.ro [(10000000, 0)]) .lit)) (.pair (.ro [(10000000, 0)]) (.pair (.ro [(10000000, 0)]) (.pair (.ro [(10000000, 0)]) (.pair (.ro [(10000000, 0)]) .lit)))))))⟩ 0 0]⟩ (.pair .bool .unit) .lit)
noncomputable def impl_ChainValid_10 (x56 : (List impl_Message)) (x57 : Int) (x58 : Int) (s0 : impl_Chain) : Option (Bool × Unit) := lim (.head 52 (cont 52 10) ⟨[(1, ⟨(.bx Y_impl_Chain), Ty.dflt (.bx Y_impl_Chain), (.ref 5000000)⟩), (56, ⟨(.sl Y_impl_Message), x56, (.ro [(10000000, 0)])⟩), (57, ⟨(.int .i64), x57, .lit⟩), (58, ⟨(.int .i64), x58, .lit⟩)], [.live ⟨(.bx Y_impl_Chain), s0, (.own (.pair (.pair .lit (.pair (.ro [(10000000, 0)]) (.pair (.ro [(10000000, 0)]) .lit))) (.pair (.pair .lit (.pair (.ro [(10000000, 0)]) .lit)) (.pair (.ro [(10000000, 0)]) (.pair (.ro [(10000000, 0)]) (.pair (.ro [(10000000, 0)]) (.pair (.ro [(10000000, 0)]) .lit)))))))⟩ 0 0]⟩ (.pair .bool .unit) .lit)
/-- impl.CallerValid -/
noncomputable def impl_CallerValid (a0 : impl_Caller) : Option (Bool × Unit) := lim (.call 54 [⟨Y_impl_Caller, a0, (.pair (.ro [(10000000, 0)]) .lit)⟩] (.pair .bool .unit) .lit)
/-- impl.ResultValid -/
noncomputable def impl_ResultValid (a0 : impl_Result) : Option (Bool × Unit) := lim (.call 55 [⟨Y_impl_Result, a0, .lit⟩] (.pair .bool .unit) .lit)
/-- impl.timeValid -/
noncomputable def impl_timeValid (a0 : Int) : Option (Bool × Unit) := lim (.call 59 [⟨(.int .i64), a0, .lit⟩] (.pair .bool .unit) .lit)
/-- impl.noCaller -/
noncomputable def impl_noCaller (a0 : impl_Caller) : Option (Bool × Unit) := lim (.call 58 [⟨Y_impl_Caller, a0, (.pair (.ro [(10000000, 0)]) .lit)⟩] (.pair .bool .unit) .lit)
/-- impl.RoutesValid -/
noncomputable def impl_RoutesValid (a0 : (List impl_Route)) : Option (Bool × Unit) := lim (.call 57 [⟨(.sl Y_impl_Route), a0, (.ro [(10000000, 0)])⟩] (.pair .bool .unit) .lit)
/-- impl.liveRoutes -/
noncomputable def impl_liveRoutes (a0 : impl_Cluster) : Option ((List impl_Route) × Unit) := lim (.call 32 [⟨Y_impl_Cluster, a0, (.pair (.ro [(10000000, 0)]) (.pair (.ro [(10000000, 0)]) (.pair (.ro [(10000000, 0)]) .lit)))⟩] (.pair (.sl Y_impl_Route) .unit) (.pair (.own .lit) .lit))
noncomputable def impl_liveRoutes_3 (x7 : (List impl_Shard)) (x8 : Int) (x9 : Int) (s0 : (List impl_Route)) : Option ((List impl_Route) × Unit) := lim (.head 32 (cont 32 3) ⟨[(3, ⟨(.sl Y_impl_Route), Ty.dflt (.sl Y_impl_Route), (.ref 5000000)⟩), (7, ⟨(.sl Y_impl_Shard), x7, (.ro [(10000000, 0)])⟩), (8, ⟨(.int .i64), x8, .lit⟩), (9, ⟨(.int .i64), x9, .lit⟩)], [.live ⟨(.sl Y_impl_Route), s0, (.own .lit)⟩ 0 0]⟩ (.pair (.sl Y_impl_Route) .unit) (.pair (.own .lit) .lit))
/-- impl.PlanValid -/
noncomputable def impl_PlanValid (a0 : impl_Plan) : Option (Bool × Unit) := lim (.call 56 [⟨Y_impl_Plan, a0, .lit⟩] (.pair .bool .unit) .lit)
/-- spec.l1In -/
noncomputable def spec_l1In (a0 : Int) (a1 : Int) (a2 : Int) : Option (Bool × Unit) := lim (.call 42 [⟨(.int .i64), a0, .lit⟩, ⟨(.int .i64), a1, .lit⟩, ⟨(.int .i64), a2, .lit⟩] (.pair .bool .unit) .lit)
/-- spec.l27Work -/
noncomputable def spec_l27Work (a0 : impl_Plan) (a1 : Int) : Option (Bool × Unit) := lim (.call 43 [⟨Y_impl_Plan, a0, .lit⟩, ⟨(.int .i64), a1, .lit⟩] (.pair .bool .unit) .lit)
/-- spec.ChainValid -/
noncomputable def spec_ChainValid (a0 : impl_Chain) : Option (Bool × Unit) := lim (.call 44 [⟨Y_impl_Chain, a0, (.pair (.pair .lit (.pair (.ro [(10000000, 0)]) (.pair (.ro [(10000000, 0)]) .lit))) (.pair (.pair .lit (.pair (.ro [(10000000, 0)]) .lit)) (.pair (.ro [(10000000, 0)]) (.pair (.ro [(10000000, 0)]) (.pair (.ro [(10000000, 0)]) (.pair (.ro [(10000000, 0)]) .lit))))))⟩] (.pair .bool .unit) .lit)
noncomputable def spec_ChainValid_4 (x3 : Int) (s0 : impl_Chain) : Option (Bool × Unit) := lim (.head 44 (cont 44 4) ⟨[(1, ⟨(.bx Y_impl_Chain), Ty.dflt (.bx Y_impl_Chain), (.ref 5000000)⟩), (3, ⟨(.int .i64), x3, .lit⟩)], [.live ⟨(.bx Y_impl_Chain), s0, (.own (.pair (.pair .lit (.pair (.ro [(10000000, 0)]) (.pair (.ro [(10000000, 0)]) .lit))) (.pair (.pair .lit (.pair (.ro [(10000000, 0)]) .lit)) (.pair (.ro [(10000000, 0)]) (.pair (.ro [(10000000, 0)]) (.pair (.ro [(10000000, 0)]) (.pair (.ro [(10000000, 0)]) .lit)))))))⟩ 0 0]⟩ (.pair .bool .unit) .lit)
noncomputable def spec_ChainValid_9 (x4 : Int) (s0 : impl_Chain) : Option (Bool × Unit) := lim (.head 44 (cont 44 9) ⟨[(1, ⟨(.bx Y_impl_Chain), Ty.dflt (.bx Y_impl_Chain), (.ref 5000000)⟩), (4, ⟨(.int .i64), x4, .lit⟩)], [.live ⟨(.bx Y_impl_Chain), s0, (.own (.pair (.pair .lit (.pair (.ro [(10000000, 0)]) (.pair (.ro [(10000000, 0)]) .lit))) (.pair (.pair .lit (.pair (.ro [(10000000, 0)]) .lit)) (.pair (.ro [(10000000, 0)]) (.pair (.ro [(10000000, 0)]) (.pair (.ro [(10000000, 0)]) (.pair (.ro [(10000000, 0)]) .lit)))))))⟩ 0 0]⟩ (.pair .bool .unit) .lit)
noncomputable def spec_ChainValid_14 (x5 : Int) (s0 : impl_Chain) : Option (Bool × Unit) := lim (.head 44 (cont 44 14) ⟨[(1, ⟨(.bx Y_impl_Chain), Ty.dflt (.bx Y_impl_Chain), (.ref 5000000)⟩), (5, ⟨(.int .i64), x5, .lit⟩)], [.live ⟨(.bx Y_impl_Chain), s0, (.own (.pair (.pair .lit (.pair (.ro [(10000000, 0)]) (.pair (.ro [(10000000, 0)]) .lit))) (.pair (.pair .lit (.pair (.ro [(10000000, 0)]) .lit)) (.pair (.ro [(10000000, 0)]) (.pair (.ro [(10000000, 0)]) (.pair (.ro [(10000000, 0)]) (.pair (.ro [(10000000, 0)]) .lit)))))))⟩ 0 0]⟩ (.pair .bool .unit) .lit)
/-- spec.CallerValid -/
noncomputable def spec_CallerValid (a0 : impl_Caller) : Option (Bool × Unit) := lim (.call 45 [⟨Y_impl_Caller, a0, (.pair (.ro [(10000000, 0)]) .lit)⟩] (.pair .bool .unit) .lit)
/-- spec.ResultValid -/
noncomputable def spec_ResultValid (a0 : impl_Result) : Option (Bool × Unit) := lim (.call 46 [⟨Y_impl_Result, a0, .lit⟩] (.pair .bool .unit) .lit)
/-- spec.RoutesValid -/
noncomputable def spec_RoutesValid (a0 : (List impl_Route)) : Option (Bool × Unit) := lim (.call 47 [⟨(.sl Y_impl_Route), a0, (.ro [(10000000, 0)])⟩] (.pair .bool .unit) .lit)
noncomputable def spec_RoutesValid_3 (x0 : (List impl_Route)) (x4 : Int) (s0 : (List impl_Interval)) : Option (Bool × Unit) := lim (.head 47 (cont 47 3) ⟨[(0, ⟨(.sl Y_impl_Route), x0, (.ro [(10000000, 0)])⟩), (3, ⟨(.sl Y_impl_Interval), Ty.dflt (.sl Y_impl_Interval), (.ref 5000000)⟩), (4, ⟨(.int .i64), x4, .lit⟩)], [.live ⟨(.sl Y_impl_Interval), s0, (.own .lit)⟩ 0 0]⟩ (.pair .bool .unit) .lit)
noncomputable def spec_RoutesValid_8 (x0 : (List impl_Route)) (x4 : Int) (x5 : Int) (s0 : (List impl_Interval)) : Option (Bool × Unit) := lim (.head 47 (cont 47 8) ⟨[(0, ⟨(.sl Y_impl_Route), x0, (.ro [(10000000, 0)])⟩), (3, ⟨(.sl Y_impl_Interval), Ty.dflt (.sl Y_impl_Interval), (.ref 5000000)⟩), (4, ⟨(.int .i64), x4, .lit⟩), (5, ⟨(.int .i64), x5, .lit⟩)], [.live ⟨(.sl Y_impl_Interval), s0, (.own .lit)⟩ 0 0]⟩ (.pair .bool .unit) .lit)
/-- spec.l27Routes -/
noncomputable def spec_l27Routes (a0 : impl_Cluster) : Option ((List impl_Route) × Unit) := lim (.call 48 [⟨Y_impl_Cluster, a0, (.pair (.ro [(10000000, 0)]) (.pair (.ro [(10000000, 0)]) (.pair (.ro [(10000000, 0)]) .lit)))⟩] (.pair (.sl Y_impl_Route) .unit) (.pair (.own .lit) .lit))
noncomputable def spec_l27Routes_3 (x4 : Int) (s0 : impl_Cluster) (s1 : (List impl_Route)) : Option ((List impl_Route) × Unit) := lim (.head 48 (cont 48 3) ⟨[(1, ⟨(.bx Y_impl_Cluster), Ty.dflt (.bx Y_impl_Cluster), (.ref 5000000)⟩), (3, ⟨(.sl Y_impl_Route), Ty.dflt (.sl Y_impl_Route), (.ref 5000001)⟩), (4, ⟨(.int .i64), x4, .lit⟩)], [.live ⟨(.bx Y_impl_Cluster), s0, (.own (.pair (.ro [(10000000, 0)]) (.pair (.ro [(10000000, 0)]) (.pair (.ro [(10000000, 0)]) .lit))))⟩ 0 0, .live ⟨(.sl Y_impl_Route), s1, (.own .lit)⟩ 0 0]⟩ (.pair (.sl Y_impl_Route) .unit) (.pair (.own .lit) .lit))
noncomputable def spec_l27Routes_9 (x4 : Int) (x7 : Int) (s0 : impl_Cluster) (s1 : (List impl_Route)) (s2 : impl_Route) (s3 : (List impl_Route)) : Option ((List impl_Route) × Unit) := lim (.head 48 (cont 48 9) ⟨[(1, ⟨(.bx Y_impl_Cluster), Ty.dflt (.bx Y_impl_Cluster), (.ref 5000000)⟩), (3, ⟨(.sl Y_impl_Route), Ty.dflt (.sl Y_impl_Route), (.ref 5000001)⟩), (4, ⟨(.int .i64), x4, .lit⟩), (5, ⟨(.bx Y_impl_Route), Ty.dflt (.bx Y_impl_Route), (.ref 5000002)⟩), (6, ⟨(.sl Y_impl_Route), Ty.dflt (.sl Y_impl_Route), (.ref 5000003)⟩), (7, ⟨(.int .i64), x7, .lit⟩)], [.live ⟨(.bx Y_impl_Cluster), s0, (.own (.pair (.ro [(10000000, 0)]) (.pair (.ro [(10000000, 0)]) (.pair (.ro [(10000000, 0)]) .lit))))⟩ 0 0, .live ⟨(.sl Y_impl_Route), s1, (.own .lit)⟩ 0 0, .live ⟨(.bx Y_impl_Route), s2, (.own .lit)⟩ 0 0, .live ⟨(.sl Y_impl_Route), s3, (.own .lit)⟩ 0 0]⟩ (.pair (.sl Y_impl_Route) .unit) (.pair (.own .lit) .lit))
/-- laws.szResult -/
noncomputable def laws_szResult (a0 : laws_Result) (a1 : Int) : Option (Int × Unit) := lim (.call 41 [⟨Y_laws_Result, a0, .lit⟩, ⟨(.int .i64), a1, .lit⟩] (.pair (.int .i64) .unit) .lit)
/-- laws.szCaller -/
noncomputable def laws_szCaller (a0 : laws_Caller) (a1 : Int) : Option (Int × Unit) := lim (.call 40 [⟨Y_laws_Caller, a0, (.pair (.ro [(10000000, 0)]) .lit)⟩, ⟨(.int .i64), a1, .lit⟩] (.pair (.int .i64) .unit) .lit)
/-- laws.szShard -/
noncomputable def laws_szShard (a0 : laws_Shard) (a1 : Int) : Option (Int × Unit) := lim (.call 39 [⟨Y_laws_Shard, a0, (.pair .lit (.pair (.pair (.pair .lit (.pair (.ro [(10000000, 0)]) (.pair (.ro [(10000000, 0)]) .lit))) (.pair (.pair .lit (.pair (.ro [(10000000, 0)]) .lit)) (.pair (.ro [(10000000, 0)]) (.pair (.ro [(10000000, 0)]) (.pair (.ro [(10000000, 0)]) (.pair (.ro [(10000000, 0)]) .lit)))))) .lit))⟩, ⟨(.int .i64), a1, .lit⟩] (.pair (.int .i64) .unit) .lit)
/-- laws.eqCommand -/
noncomputable def laws_eqCommand (a0 : impl_Command) (a1 : impl_Command) : Option (Bool × Unit) := lim (.call 107 [⟨Y_impl_Command, a0, .lit⟩, ⟨Y_impl_Command, a1, .lit⟩] (.pair .bool .unit) .lit)
/-- laws.eqRouteS -/
noncomputable def laws_eqRouteS (a0 : (List impl_Route)) (a1 : (List impl_Route)) : Option (Bool × Unit) := lim (.call 33 [⟨(.sl Y_impl_Route), a0, (.ro [(10000000, 0)])⟩, ⟨(.sl Y_impl_Route), a1, (.ro [(10000001, 0)])⟩] (.pair .bool .unit) .lit)
noncomputable def laws_eqRouteS_4 (x0 : (List impl_Route)) (x1 : (List impl_Route)) (x5 : Int) : Option (Bool × Unit) := lim (.head 33 (cont 33 4) ⟨[(0, ⟨(.sl Y_impl_Route), x0, (.ro [(10000000, 0)])⟩), (1, ⟨(.sl Y_impl_Route), x1, (.ro [(10000001, 0)])⟩), (5, ⟨(.int .i64), x5, .lit⟩)], []⟩ (.pair .bool .unit) .lit)
/-- laws.eqChain -/
noncomputable def laws_eqChain (a0 : impl_Chain) (a1 : impl_Chain) : Option (Bool × Unit) := lim (.call 106 [⟨Y_impl_Chain, a0, (.pair (.pair .lit (.pair (.ro [(10000000, 0)]) (.pair (.ro [(10000000, 0)]) .lit))) (.pair (.pair .lit (.pair (.ro [(10000000, 0)]) .lit)) (.pair (.ro [(10000000, 0)]) (.pair (.ro [(10000000, 0)]) (.pair (.ro [(10000000, 0)]) (.pair (.ro [(10000000, 0)]) .lit))))))⟩, ⟨Y_impl_Chain, a1, (.pair (.pair .lit (.pair (.ro [(10000001, 0)]) (.pair (.ro [(10000001, 0)]) .lit))) (.pair (.pair .lit (.pair (.ro [(10000001, 0)]) .lit)) (.pair (.ro [(10000001, 0)]) (.pair (.ro [(10000001, 0)]) (.pair (.ro [(10000001, 0)]) (.pair (.ro [(10000001, 0)]) .lit))))))⟩] (.pair .bool .unit) .lit)
/-- laws.toCommand -/
noncomputable def laws_toCommand (a0 : laws_Command) : Option (impl_Command × Unit) := lim (.call 89 [⟨Y_laws_Command, a0, .lit⟩] (.pair Y_impl_Command .unit) .lit)
/-- laws.toRouteS -/
noncomputable def laws_toRouteS (a0 : (List laws_Route)) : Option ((List impl_Route) × Unit) := lim (.call 88 [⟨(.sl Y_laws_Route), a0, (.ro [(10000000, 0)])⟩] (.pair (.sl Y_impl_Route) .unit) (.pair (.own .lit) .lit))
noncomputable def laws_toRouteS_3 (x0 : (List laws_Route)) (x4 : Int) (s0 : (List impl_Route)) : Option ((List impl_Route) × Unit) := lim (.head 88 (cont 88 3) ⟨[(0, ⟨(.sl Y_laws_Route), x0, (.ro [(10000000, 0)])⟩), (3, ⟨(.sl Y_impl_Route), Ty.dflt (.sl Y_impl_Route), (.ref 5000000)⟩), (4, ⟨(.int .i64), x4, .lit⟩)], [.live ⟨(.sl Y_impl_Route), s0, (.own .lit)⟩ 0 0]⟩ (.pair (.sl Y_impl_Route) .unit) (.pair (.own .lit) .lit))
/-- laws.toChain -/
noncomputable def laws_toChain (a0 : laws_Chain) : Option (impl_Chain × Unit) := lim (.call 87 [⟨Y_laws_Chain, a0, (.pair (.pair .lit (.pair (.ro [(10000000, 0)]) (.pair (.ro [(10000000, 0)]) .lit))) (.pair (.pair .lit (.pair (.ro [(10000000, 0)]) .lit)) (.pair (.ro [(10000000, 0)]) (.pair (.ro [(10000000, 0)]) (.pair (.ro [(10000000, 0)]) (.pair (.ro [(10000000, 0)]) .lit))))))⟩] (.pair Y_impl_Chain .unit) (.pair (.pair (.pair .lit (.pair (.own .lit) (.pair (.own .lit) .lit))) (.pair (.pair .lit (.pair (.own .lit) .lit)) (.pair (.own (.pair (.pair .lit (.pair (.own .lit) .lit)) (.pair .lit (.pair (.own .lit) .lit)))) (.pair (.own .lit) (.pair (.own (.pair .lit (.pair .lit (.pair .lit (.pair (.pair .lit (.pair (.own .lit) .lit)) (.pair (.own .lit) .lit)))))) (.pair (.own .lit) .lit)))))) .lit))
/-- impl.BagValid -/
noncomputable def impl_BagValid (a0 : (List impl_Message)) : Option (Bool × Unit) := lim (.call 92 [⟨(.sl Y_impl_Message), a0, (.ro [(10000000, 0)])⟩] (.pair .bool .unit) .lit)
noncomputable def impl_BagValid_4 (x8 : (List impl_Message)) (x9 : Int) (x10 : Int) : Option (Bool × Unit) := lim (.head 92 (cont 92 4) ⟨[(8, ⟨(.sl Y_impl_Message), x8, (.ro [(10000000, 0)])⟩), (9, ⟨(.int .i64), x9, .lit⟩), (10, ⟨(.int .i64), x10, .lit⟩)], []⟩ (.pair .bool .unit) .lit)
/-- impl.ConfigValid -/
noncomputable def impl_ConfigValid (a0 : impl_Config) : Option (Bool × Unit) := lim (.call 91 [⟨Y_impl_Config, a0, (.pair .lit (.pair (.ro [(10000000, 0)]) .lit))⟩] (.pair .bool .unit) .lit)
noncomputable def impl_ConfigValid_5 (x34 : (List Int)) (x35 : Int) (x36 : Int) (s0 : impl_Config) : Option (Bool × Unit) := lim (.head 91 (cont 91 5) ⟨[(1, ⟨(.bx Y_impl_Config), Ty.dflt (.bx Y_impl_Config), (.ref 5000000)⟩), (34, ⟨(.sl (.int .i64)), x34, (.ro [(10000000, 0)])⟩), (35, ⟨(.int .i64), x35, .lit⟩), (36, ⟨(.int .i64), x36, .lit⟩)], [.live ⟨(.bx Y_impl_Config), s0, (.own (.pair .lit (.pair (.ro [(10000000, 0)]) .lit)))⟩ 0 0]⟩ (.pair .bool .unit) .lit)
/-- impl.StateValid -/
noncomputable def impl_StateValid (a0 : impl_State) : Option (Bool × Unit) := lim (.call 90 [⟨Y_impl_State, a0, (.pair .lit (.pair (.ro [(10000000, 0)]) (.pair (.ro [(10000000, 0)]) .lit)))⟩] (.pair .bool .unit) .lit)
noncomputable def impl_StateValid_4 (x25 : (List impl_Pair)) (x26 : Int) (x27 : Int) (s0 : impl_State) : Option (Bool × Unit) := lim (.head 90 (cont 90 4) ⟨[(1, ⟨(.bx Y_impl_State), Ty.dflt (.bx Y_impl_State), (.ref 5000000)⟩), (25, ⟨(.sl Y_impl_Pair), x25, (.ro [(10000000, 0)])⟩), (26, ⟨(.int .i64), x26, .lit⟩), (27, ⟨(.int .i64), x27, .lit⟩)], [.live ⟨(.bx Y_impl_State), s0, (.own (.pair .lit (.pair (.ro [(10000000, 0)]) (.pair (.ro [(10000000, 0)]) .lit))))⟩ 0 0]⟩ (.pair .bool .unit) .lit)
/-- impl.ReplicaValid -/
noncomputable def impl_ReplicaValid (a0 : impl_Replica) : Option (Bool × Unit) := lim (.call 93 [⟨Y_impl_Replica, a0, (.pair (.pair .lit (.pair (.ro [(10000000, 0)]) .lit)) (.pair .lit (.pair (.ro [(10000000, 0)]) .lit)))⟩] (.pair .bool .unit) .lit)
/-- impl.answersValid -/
noncomputable def impl_answersValid (a0 : (List impl_Answer)) : Option (Bool × Unit) := lim (.call 94 [⟨(.sl Y_impl_Answer), a0, (.ro [(10000000, 0)])⟩] (.pair .bool .unit) .lit)
noncomputable def impl_answersValid_4 (x8 : (List impl_Answer)) (x9 : Int) (x10 : Int) : Option (Bool × Unit) := lim (.head 94 (cont 94 4) ⟨[(8, ⟨(.sl Y_impl_Answer), x8, (.ro [(10000000, 0)])⟩), (9, ⟨(.int .i64), x9, .lit⟩), (10, ⟨(.int .i64), x10, .lit⟩)], []⟩ (.pair .bool .unit) .lit)
/-- impl.wishValid -/
noncomputable def impl_wishValid (a0 : impl_Command) : Option (Bool × Unit) := lim (.call 96 [⟨Y_impl_Command, a0, .lit⟩] (.pair .bool .unit) .lit)
/-- impl.CacheValid -/
noncomputable def impl_CacheValid (a0 : (List impl_Route)) : Option (Bool × Unit) := lim (.call 95 [⟨(.sl Y_impl_Route), a0, (.ro [(10000000, 0)])⟩] (.pair .bool .unit) .lit)
noncomputable def impl_CacheValid_4 (x0 : (List impl_Route)) (x13 : (List impl_Route)) (x14 : Int) (x15 : Int) : Option (Bool × Unit) := lim (.head 95 (cont 95 4) ⟨[(0, ⟨(.sl Y_impl_Route), x0, (.ro [(10000000, 0)])⟩), (13, ⟨(.sl Y_impl_Route), x13, (.ro [(10000000, 0)])⟩), (14, ⟨(.int .i64), x14, .lit⟩), (15, ⟨(.int .i64), x15, .lit⟩)], []⟩ (.pair .bool .unit) .lit)
/-- impl.replyValid -/
noncomputable def impl_replyValid (a0 : Int) : Option (Bool × Unit) := lim (.call 99 [⟨(.int .i64), a0, .lit⟩] (.pair .bool .unit) .lit)
/-- impl.seqValid -/
noncomputable def impl_seqValid (a0 : Int) : Option (Bool × Unit) := lim (.call 98 [⟨(.int .i64), a0, .lit⟩] (.pair .bool .unit) .lit)
/-- impl.clientNumber -/
noncomputable def impl_clientNumber (a0 : Int) : Option (Bool × Unit) := lim (.call 97 [⟨(.int .i64), a0, .lit⟩] (.pair .bool .unit) .lit)
/-- impl.numbersDiffer -/
noncomputable def impl_numbersDiffer (a0 : (List impl_Route)) : Option (Bool × Unit) := lim (.call 105 [⟨(.sl Y_impl_Route), a0, (.ro [(10000000, 0)])⟩] (.pair .bool .unit) .lit)
noncomputable def impl_numbersDiffer_2 (x0 : (List impl_Route)) (x5 : (List impl_Route)) (x6 : Int) (x7 : Int) : Option (Bool × Unit) := lim (.head 105 (cont 105 2) ⟨[(0, ⟨(.sl Y_impl_Route), x0, (.ro [(10000000, 0)])⟩), (5, ⟨(.sl Y_impl_Route), x5, (.ro [(10000000, 0)])⟩), (6, ⟨(.int .i64), x6, .lit⟩), (7, ⟨(.int .i64), x7, .lit⟩)], []⟩ (.pair .bool .unit) .lit)
/-- impl.PartitionValid -/
noncomputable def impl_PartitionValid (a0 : (List impl_Interval)) : Option (Bool × Unit) := lim (.call 103 [⟨(.sl Y_impl_Interval), a0, (.ro [(10000000, 0)])⟩] (.pair .bool .unit) .lit)
noncomputable def impl_PartitionValid_5 (x0 : (List impl_Interval)) (x32 : (List impl_Interval)) (x33 : Int) (x34 : Int) : Option (Bool × Unit) := lim (.head 103 (cont 103 5) ⟨[(0, ⟨(.sl Y_impl_Interval), x0, (.ro [(10000000, 0)])⟩), (32, ⟨(.sl Y_impl_Interval), x32, (.ro [(10000000, 0)])⟩), (33, ⟨(.int .i64), x33, .lit⟩), (34, ⟨(.int .i64), x34, .lit⟩)], []⟩ (.pair .bool .unit) .lit)
/-- impl.spansOf -/
noncomputable def impl_spansOf (a0 : (List impl_Route)) : Option ((List impl_Interval) × Unit) := lim (.call 104 [⟨(.sl Y_impl_Route), a0, (.ro [(10000000, 0)])⟩] (.pair (.sl Y_impl_Interval) .unit) (.pair (.own .lit) .lit))
noncomputable def impl_spansOf_3 (x6 : (List impl_Route)) (x7 : Int) (x8 : Int) (s0 : (List impl_Interval)) : Option ((List impl_Interval) × Unit) := lim (.head 104 (cont 104 3) ⟨[(3, ⟨(.sl Y_impl_Interval), Ty.dflt (.sl Y_impl_Interval), (.ref 5000000)⟩), (6, ⟨(.sl Y_impl_Route), x6, (.ro [(10000000, 0)])⟩), (7, ⟨(.int .i64), x7, .lit⟩), (8, ⟨(.int .i64), x8, .lit⟩)], [.live ⟨(.sl Y_impl_Interval), s0, (.own .lit)⟩ 0 0]⟩ (.pair (.sl Y_impl_Interval) .unit) (.pair (.own .lit) .lit))
/-- impl.Route] -/
noncomputable def slices_SortStableFunc_Route_Route (a0 : (List impl_Route)) (a1 : Unit) : Option (Unit × ((List impl_Route) × Unit)) := lim (.call 63 [⟨(.sl Y_impl_Route), a0, (.own .lit)⟩, ⟨(.fn 64 .unit), a1, .lit⟩] (.pair .unit (.tc (.sl Y_impl_Route) .unit)) (.pair .lit (.pair (.own .lit) .lit)))
/-- impl.KeyValid -/
noncomputable def impl_KeyValid (a0 : ByteArray) : Option (Bool × Unit) := lim (.call 101 [⟨.str, a0, .lit⟩] (.pair .bool .unit) .lit)
/-- impl.shardNumber -/
noncomputable def impl_shardNumber (a0 : Int) : Option (Bool × Unit) := lim (.call 100 [⟨(.int .i64), a0, .lit⟩] (.pair .bool .unit) .lit)
/-- impl.nodeValid -/
noncomputable def impl_nodeValid (a0 : Int) : Option (Bool × Unit) := lim (.call 102 [⟨(.int .i64), a0, .lit⟩] (.pair .bool .unit) .lit)
/-- spec.PlanValid -/
noncomputable def spec_PlanValid (a0 : impl_Plan) : Option (Bool × Unit) := lim (.call 78 [⟨Y_impl_Plan, a0, .lit⟩] (.pair .bool .unit) .lit)
/-- spec.BagValid -/
noncomputable def spec_BagValid (a0 : (List impl_Message)) : Option (Bool × Unit) := lim (.call 81 [⟨(.sl Y_impl_Message), a0, (.ro [(10000000, 0)])⟩] (.pair .bool .unit) .lit)
noncomputable def spec_BagValid_2 (x0 : (List impl_Message)) (x3 : Int) : Option (Bool × Unit) := lim (.head 81 (cont 81 2) ⟨[(0, ⟨(.sl Y_impl_Message), x0, (.ro [(10000000, 0)])⟩), (3, ⟨(.int .i64), x3, .lit⟩)], []⟩ (.pair .bool .unit) .lit)
/-- spec.ConfigValid -/
noncomputable def spec_ConfigValid (a0 : impl_Config) : Option (Bool × Unit) := lim (.call 80 [⟨Y_impl_Config, a0, (.pair .lit (.pair (.ro [(10000000, 0)]) .lit))⟩] (.pair .bool .unit) .lit)
noncomputable def spec_ConfigValid_4 (x3 : Int) (s0 : impl_Config) : Option (Bool × Unit) := lim (.head 80 (cont 80 4) ⟨[(1, ⟨(.bx Y_impl_Config), Ty.dflt (.bx Y_impl_Config), (.ref 5000000)⟩), (3, ⟨(.int .i64), x3, .lit⟩)], [.live ⟨(.bx Y_impl_Config), s0, (.own (.pair .lit (.pair (.ro [(10000000, 0)]) .lit)))⟩ 0 0]⟩ (.pair .bool .unit) .lit)
noncomputable def spec_ConfigValid_9 (x3 : Int) (x4 : Int) (s0 : impl_Config) : Option (Bool × Unit) := lim (.head 80 (cont 80 9) ⟨[(1, ⟨(.bx Y_impl_Config), Ty.dflt (.bx Y_impl_Config), (.ref 5000000)⟩), (3, ⟨(.int .i64), x3, .lit⟩), (4, ⟨(.int .i64), x4, .lit⟩)], [.live ⟨(.bx Y_impl_Config), s0, (.own (.pair .lit (.pair (.ro [(10000000, 0)]) .lit)))⟩ 0 0]⟩ (.pair .bool .unit) .lit)
/-- spec.StateValid -/
noncomputable def spec_StateValid (a0 : impl_State) : Option (Bool × Unit) := lim (.call 79 [⟨Y_impl_State, a0, (.pair .lit (.pair (.ro [(10000000, 0)]) (.pair (.ro [(10000000, 0)]) .lit)))⟩] (.pair .bool .unit) .lit)
noncomputable def spec_StateValid_4 (x3 : Int) (s0 : impl_State) : Option (Bool × Unit) := lim (.head 79 (cont 79 4) ⟨[(1, ⟨(.bx Y_impl_State), Ty.dflt (.bx Y_impl_State), (.ref 5000000)⟩), (3, ⟨(.int .i64), x3, .lit⟩)], [.live ⟨(.bx Y_impl_State), s0, (.own (.pair .lit (.pair (.ro [(10000000, 0)]) (.pair (.ro [(10000000, 0)]) .lit))))⟩ 0 0]⟩ (.pair .bool .unit) .lit)
/-- spec.ReplicaValid -/
noncomputable def spec_ReplicaValid (a0 : impl_Replica) : Option (Bool × Unit) := lim (.call 82 [⟨Y_impl_Replica, a0, (.pair (.pair .lit (.pair (.ro [(10000000, 0)]) .lit)) (.pair .lit (.pair (.ro [(10000000, 0)]) .lit)))⟩] (.pair .bool .unit) .lit)
/-- spec.EntryValid -/
noncomputable def spec_EntryValid (a0 : impl_Entry) : Option (Bool × Unit) := lim (.call 83 [⟨Y_impl_Entry, a0, .lit⟩] (.pair .bool .unit) .lit)
/-- spec.l25Wish -/
noncomputable def spec_l25Wish (a0 : impl_Command) : Option (Bool × Unit) := lim (.call 85 [⟨Y_impl_Command, a0, .lit⟩] (.pair .bool .unit) .lit)
/-- spec.CacheValid -/
noncomputable def spec_CacheValid (a0 : (List impl_Route)) : Option (Bool × Unit) := lim (.call 84 [⟨(.sl Y_impl_Route), a0, (.ro [(10000000, 0)])⟩] (.pair .bool .unit) .lit)
noncomputable def spec_CacheValid_2 (x0 : (List impl_Route)) (x3 : Int) : Option (Bool × Unit) := lim (.head 84 (cont 84 2) ⟨[(0, ⟨(.sl Y_impl_Route), x0, (.ro [(10000000, 0)])⟩), (3, ⟨(.int .i64), x3, .lit⟩)], []⟩ (.pair .bool .unit) .lit)
noncomputable def spec_CacheValid_7 (x0 : (List impl_Route)) (x3 : Int) (x4 : Int) : Option (Bool × Unit) := lim (.head 84 (cont 84 7) ⟨[(0, ⟨(.sl Y_impl_Route), x0, (.ro [(10000000, 0)])⟩), (3, ⟨(.int .i64), x3, .lit⟩), (4, ⟨(.int .i64), x4, .lit⟩)], []⟩ (.pair .bool .unit) .lit)
/-- spec.PartitionValid -/
noncomputable def spec_PartitionValid (a0 : (List impl_Interval)) : Option (Bool × Unit) := lim (.call 86 [⟨(.sl Y_impl_Interval), a0, (.ro [(10000000, 0)])⟩] (.pair .bool .unit) .lit)
noncomputable def spec_PartitionValid_4 (x0 : (List impl_Interval)) (x3 : Int) : Option (Bool × Unit) := lim (.head 86 (cont 86 4) ⟨[(0, ⟨(.sl Y_impl_Interval), x0, (.ro [(10000000, 0)])⟩), (3, ⟨(.int .i64), x3, .lit⟩)], []⟩ (.pair .bool .unit) .lit)
/-- laws.szCommand -/
noncomputable def laws_szCommand (a0 : laws_Command) (a1 : Int) : Option (Int × Unit) := lim (.call 77 [⟨Y_laws_Command, a0, .lit⟩, ⟨(.int .i64), a1, .lit⟩] (.pair (.int .i64) .unit) .lit)
/-- laws.szRouteS -/
noncomputable def laws_szRouteS (a0 : (List laws_Route)) (a1 : Int) : Option (Int × Unit) := lim (.call 76 [⟨(.sl Y_laws_Route), a0, (.ro [(10000000, 0)])⟩, ⟨(.int .i64), a1, .lit⟩] (.pair (.int .i64) .unit) .lit)
noncomputable def laws_szRouteS_5 (x0 : (List laws_Route)) (x1 : Int) (x5 : Int) : Option (Int × Unit) := lim (.head 76 (cont 76 5) ⟨[(0, ⟨(.sl Y_laws_Route), x0, (.ro [(10000000, 0)])⟩), (1, ⟨(.int .i64), x1, .lit⟩), (5, ⟨(.int .i64), x5, .lit⟩)], []⟩ (.pair (.int .i64) .unit) .lit)
/-- laws.szChain -/
noncomputable def laws_szChain (a0 : laws_Chain) (a1 : Int) : Option (Int × Unit) := lim (.call 75 [⟨Y_laws_Chain, a0, (.pair (.pair .lit (.pair (.ro [(10000000, 0)]) (.pair (.ro [(10000000, 0)]) .lit))) (.pair (.pair .lit (.pair (.ro [(10000000, 0)]) .lit)) (.pair (.ro [(10000000, 0)]) (.pair (.ro [(10000000, 0)]) (.pair (.ro [(10000000, 0)]) (.pair (.ro [(10000000, 0)]) .lit))))))⟩, ⟨(.int .i64), a1, .lit⟩] (.pair (.int .i64) .unit) .lit)
/-- laws.eqRoute -/
noncomputable def laws_eqRoute (a0 : impl_Route) (a1 : impl_Route) : Option (Bool × Unit) := lim (.call 66 [⟨Y_impl_Route, a0, .lit⟩, ⟨Y_impl_Route, a1, .lit⟩] (.pair .bool .unit) .lit)
/-- laws.eqAnswerS -/
noncomputable def laws_eqAnswerS (a0 : (List impl_Answer)) (a1 : (List impl_Answer)) : Option (Bool × Unit) := lim (.call 156 [⟨(.sl Y_impl_Answer), a0, (.ro [(10000000, 0)])⟩, ⟨(.sl Y_impl_Answer), a1, (.ro [(10000001, 0)])⟩] (.pair .bool .unit) .lit)
noncomputable def laws_eqAnswerS_4 (x0 : (List impl_Answer)) (x1 : (List impl_Answer)) (x5 : Int) : Option (Bool × Unit) := lim (.head 156 (cont 156 4) ⟨[(0, ⟨(.sl Y_impl_Answer), x0, (.ro [(10000000, 0)])⟩), (1, ⟨(.sl Y_impl_Answer), x1, (.ro [(10000001, 0)])⟩), (5, ⟨(.int .i64), x5, .lit⟩)], []⟩ (.pair .bool .unit) .lit)
/-- laws.eqMessageS -/
noncomputable def laws_eqMessageS (a0 : (List impl_Message)) (a1 : (List impl_Message)) : Option (Bool × Unit) := lim (.call 155 [⟨(.sl Y_impl_Message), a0, (.ro [(10000000, 0)])⟩, ⟨(.sl Y_impl_Message), a1, (.ro [(10000001, 0)])⟩] (.pair .bool .unit) .lit)
noncomputable def laws_eqMessageS_4 (x0 : (List impl_Message)) (x1 : (List impl_Message)) (x5 : Int) : Option (Bool × Unit) := lim (.head 155 (cont 155 4) ⟨[(0, ⟨(.sl Y_impl_Message), x0, (.ro [(10000000, 0)])⟩), (1, ⟨(.sl Y_impl_Message), x1, (.ro [(10000001, 0)])⟩), (5, ⟨(.int .i64), x5, .lit⟩)], []⟩ (.pair .bool .unit) .lit)
/-- laws.eqBoolS -/
noncomputable def laws_eqBoolS (a0 : (List Bool)) (a1 : (List Bool)) : Option (Bool × Unit) := lim (.call 154 [⟨(.sl .bool), a0, (.ro [(10000000, 0)])⟩, ⟨(.sl .bool), a1, (.ro [(10000001, 0)])⟩] (.pair .bool .unit) .lit)
noncomputable def laws_eqBoolS_4 (x0 : (List Bool)) (x1 : (List Bool)) (x5 : Int) : Option (Bool × Unit) := lim (.head 154 (cont 154 4) ⟨[(0, ⟨(.sl .bool), x0, (.ro [(10000000, 0)])⟩), (1, ⟨(.sl .bool), x1, (.ro [(10000001, 0)])⟩), (5, ⟨(.int .i64), x5, .lit⟩)], []⟩ (.pair .bool .unit) .lit)
/-- laws.eqReplicaS -/
noncomputable def laws_eqReplicaS (a0 : (List impl_Replica)) (a1 : (List impl_Replica)) : Option (Bool × Unit) := lim (.call 153 [⟨(.sl Y_impl_Replica), a0, (.ro [(10000000, 0)])⟩, ⟨(.sl Y_impl_Replica), a1, (.ro [(10000001, 0)])⟩] (.pair .bool .unit) .lit)
noncomputable def laws_eqReplicaS_4 (x0 : (List impl_Replica)) (x1 : (List impl_Replica)) (x5 : Int) : Option (Bool × Unit) := lim (.head 153 (cont 153 4) ⟨[(0, ⟨(.sl Y_impl_Replica), x0, (.ro [(10000000, 0)])⟩), (1, ⟨(.sl Y_impl_Replica), x1, (.ro [(10000001, 0)])⟩), (5, ⟨(.int .i64), x5, .lit⟩)], []⟩ (.pair .bool .unit) .lit)
/-- laws.eqConfig -/
noncomputable def laws_eqConfig (a0 : impl_Config) (a1 : impl_Config) : Option (Bool × Unit) := lim (.call 152 [⟨Y_impl_Config, a0, (.pair .lit (.pair (.ro [(10000000, 0)]) .lit))⟩, ⟨Y_impl_Config, a1, (.pair .lit (.pair (.ro [(10000001, 0)]) .lit))⟩] (.pair .bool .unit) .lit)
/-- laws.eqState -/
noncomputable def laws_eqState (a0 : impl_State) (a1 : impl_State) : Option (Bool × Unit) := lim (.call 151 [⟨Y_impl_State, a0, (.pair .lit (.pair (.ro [(10000000, 0)]) (.pair (.ro [(10000000, 0)]) .lit)))⟩, ⟨Y_impl_State, a1, (.pair .lit (.pair (.ro [(10000001, 0)]) (.pair (.ro [(10000001, 0)]) .lit)))⟩] (.pair .bool .unit) .lit)
/-- laws.toRoute -/
noncomputable def laws_toRoute (a0 : laws_Route) : Option (impl_Route × Unit) := lim (.call 136 [⟨Y_laws_Route, a0, .lit⟩] (.pair Y_impl_Route .unit) .lit)
/-- laws.toAnswerS -/
noncomputable def laws_toAnswerS (a0 : (List laws_Answer)) : Option ((List impl_Answer) × Unit) := lim (.call 135 [⟨(.sl Y_laws_Answer), a0, (.ro [(10000000, 0)])⟩] (.pair (.sl Y_impl_Answer) .unit) (.pair (.own .lit) .lit))
noncomputable def laws_toAnswerS_3 (x0 : (List laws_Answer)) (x4 : Int) (s0 : (List impl_Answer)) : Option ((List impl_Answer) × Unit) := lim (.head 135 (cont 135 3) ⟨[(0, ⟨(.sl Y_laws_Answer), x0, (.ro [(10000000, 0)])⟩), (3, ⟨(.sl Y_impl_Answer), Ty.dflt (.sl Y_impl_Answer), (.ref 5000000)⟩), (4, ⟨(.int .i64), x4, .lit⟩)], [.live ⟨(.sl Y_impl_Answer), s0, (.own .lit)⟩ 0 0]⟩ (.pair (.sl Y_impl_Answer) .unit) (.pair (.own .lit) .lit))
/-- laws.toMessageS -/
noncomputable def laws_toMessageS (a0 : (List laws_Message)) : Option ((List impl_Message) × Unit) := lim (.call 134 [⟨(.sl Y_laws_Message), a0, (.ro [(10000000, 0)])⟩] (.pair (.sl Y_impl_Message) .unit) (.pair (.own (.pair .lit (.pair .lit (.pair .lit (.pair (.pair .lit (.pair (.own .lit) .lit)) (.pair (.own .lit) .lit)))))) .lit))
noncomputable def laws_toMessageS_3 (x0 : (List laws_Message)) (x4 : Int) (s0 : (List impl_Message)) : Option ((List impl_Message) × Unit) := lim (.head 134 (cont 134 3) ⟨[(0, ⟨(.sl Y_laws_Message), x0, (.ro [(10000000, 0)])⟩), (3, ⟨(.sl Y_impl_Message), Ty.dflt (.sl Y_impl_Message), (.ref 5000000)⟩), (4, ⟨(.int .i64), x4, .lit⟩)], [.live ⟨(.sl Y_impl_Message), s0, (.own (.pair .lit (.pair .lit (.pair .lit (.pair (.pair .lit (.pair (.own .lit) .lit)) (.pair (.own .lit) .lit))))))⟩ 0 0]⟩ (.pair (.sl Y_impl_Message) .unit) (.pair (.own (.pair .lit (.pair .lit (.pair .lit (.pair (.pair .lit (.pair (.own .lit) .lit)) (.pair (.own .lit) .lit)))))) .lit))
/-- laws.toBoolS -/
noncomputable def laws_toBoolS (a0 : (List Bool)) : Option ((List Bool) × Unit) := lim (.call 133 [⟨(.sl .bool), a0, (.ro [(10000000, 0)])⟩] (.pair (.sl .bool) .unit) (.pair (.own .lit) .lit))
noncomputable def laws_toBoolS_3 (x0 : (List Bool)) (x4 : Int) (s0 : (List Bool)) : Option ((List Bool) × Unit) := lim (.head 133 (cont 133 3) ⟨[(0, ⟨(.sl .bool), x0, (.ro [(10000000, 0)])⟩), (3, ⟨(.sl .bool), Ty.dflt (.sl .bool), (.ref 5000000)⟩), (4, ⟨(.int .i64), x4, .lit⟩)], [.live ⟨(.sl .bool), s0, (.own .lit)⟩ 0 0]⟩ (.pair (.sl .bool) .unit) (.pair (.own .lit) .lit))
/-- laws.toReplicaS -/
noncomputable def laws_toReplicaS (a0 : (List laws_Replica)) : Option ((List impl_Replica) × Unit) := lim (.call 132 [⟨(.sl Y_laws_Replica), a0, (.ro [(10000000, 0)])⟩] (.pair (.sl Y_impl_Replica) .unit) (.pair (.own (.pair (.pair .lit (.pair (.own .lit) .lit)) (.pair .lit (.pair (.own .lit) .lit)))) .lit))
noncomputable def laws_toReplicaS_3 (x0 : (List laws_Replica)) (x4 : Int) (s0 : (List impl_Replica)) : Option ((List impl_Replica) × Unit) := lim (.head 132 (cont 132 3) ⟨[(0, ⟨(.sl Y_laws_Replica), x0, (.ro [(10000000, 0)])⟩), (3, ⟨(.sl Y_impl_Replica), Ty.dflt (.sl Y_impl_Replica), (.ref 5000000)⟩), (4, ⟨(.int .i64), x4, .lit⟩)], [.live ⟨(.sl Y_impl_Replica), s0, (.own (.pair (.pair .lit (.pair (.own .lit) .lit)) (.pair .lit (.pair (.own .lit) .lit))))⟩ 0 0]⟩ (.pair (.sl Y_impl_Replica) .unit) (.pair (.own (.pair (.pair .lit (.pair (.own .lit) .lit)) (.pair .lit (.pair (.own .lit) .lit)))) .lit))
/-- laws.toConfig -/
noncomputable def laws_toConfig (a0 : laws_Config) : Option (impl_Config × Unit) := lim (.call 131 [⟨Y_laws_Config, a0, (.pair .lit (.pair (.ro [(10000000, 0)]) .lit))⟩] (.pair Y_impl_Config .unit) (.pair (.pair .lit (.pair (.own .lit) .lit)) .lit))
/-- laws.toState -/
noncomputable def laws_toState (a0 : laws_State) : Option (impl_State × Unit) := lim (.call 130 [⟨Y_laws_State, a0, (.pair .lit (.pair (.ro [(10000000, 0)]) (.pair (.ro [(10000000, 0)]) .lit)))⟩] (.pair Y_impl_State .unit) (.pair (.pair .lit (.pair (.own .lit) (.pair (.own .lit) .lit))) .lit))
/-- impl.MessageValid -/
noncomputable def impl_MessageValid (a0 : impl_Message) : Option (Bool × Unit) := lim (.call 143 [⟨Y_impl_Message, a0, (.pair .lit (.pair .lit (.pair .lit (.pair (.pair .lit (.pair (.ro [(10000000, 0)]) .lit)) (.pair (.ro [(10000000, 0)]) .lit)))))⟩] (.pair .bool .unit) .lit)
/-- slices.Contains[[]int,int] -/
noncomputable def slices_Contains_sint_int (a0 : (List Int)) (a1 : Int) : Option (Bool × Unit) := lim (.call 142 [⟨(.sl (.int .i64)), a0, (.ro [(10000000, 0)])⟩, ⟨(.int .i64), a1, .lit⟩] (.pair .bool .unit) .lit)
/-- impl.SessionsValid -/
noncomputable def impl_SessionsValid (a0 : (List impl_Session)) : Option (Bool × Unit) := lim (.call 139 [⟨(.sl Y_impl_Session), a0, (.ro [(10000000, 0)])⟩] (.pair .bool .unit) .lit)
noncomputable def impl_SessionsValid_2 (x0 : (List impl_Session)) (x5 : (List impl_Session)) (x6 : Int) (x7 : Int) : Option (Bool × Unit) := lim (.head 139 (cont 139 2) ⟨[(0, ⟨(.sl Y_impl_Session), x0, (.ro [(10000000, 0)])⟩), (5, ⟨(.sl Y_impl_Session), x5, (.ro [(10000000, 0)])⟩), (6, ⟨(.int .i64), x6, .lit⟩), (7, ⟨(.int .i64), x7, .lit⟩)], []⟩ (.pair .bool .unit) .lit)
/-- impl.PairsValid -/
noncomputable def impl_PairsValid (a0 : (List impl_Pair)) : Option (Bool × Unit) := lim (.call 138 [⟨(.sl Y_impl_Pair), a0, (.ro [(10000000, 0)])⟩] (.pair .bool .unit) .lit)
noncomputable def impl_PairsValid_4 (x0 : (List impl_Pair)) (x8 : (List impl_Pair)) (x9 : Int) (x10 : Int) : Option (Bool × Unit) := lim (.head 138 (cont 138 4) ⟨[(0, ⟨(.sl Y_impl_Pair), x0, (.ro [(10000000, 0)])⟩), (8, ⟨(.sl Y_impl_Pair), x8, (.ro [(10000000, 0)])⟩), (9, ⟨(.int .i64), x9, .lit⟩), (10, ⟨(.int .i64), x10, .lit⟩)], []⟩ (.pair .bool .unit) .lit)
/-- impl.IntervalValid -/
noncomputable def impl_IntervalValid (a0 : impl_Interval) : Option (Bool × Unit) := lim (.call 137 [⟨Y_impl_Interval, a0, .lit⟩] (.pair .bool .unit) .lit)
/-- impl.inside -/
noncomputable def impl_inside (a0 : impl_Interval) (a1 : ByteArray) : Option (Bool × Unit) := lim (.call 140 [⟨Y_impl_Interval, a0, .lit⟩, ⟨.str, a1, .lit⟩] (.pair .bool .unit) .lit)
/-- impl.IntervalCut -/
noncomputable def impl_IntervalCut (a0 : impl_Interval) (a1 : ByteArray) : Option ((impl_Interval × (impl_Interval × (Bool × Unit))) × Unit) := lim (.call 141 [⟨Y_impl_Interval, a0, .lit⟩, ⟨.str, a1, .lit⟩] (.pair (.tc Y_impl_Interval (.tc Y_impl_Interval (.tc .bool .unit))) .unit) .lit)
/-- impl.entriesValid -/
noncomputable def impl_entriesValid (a0 : (List impl_Entry)) : Option (Bool × Unit) := lim (.call 145 [⟨(.sl Y_impl_Entry), a0, (.ro [(10000000, 0)])⟩] (.pair .bool .unit) .lit)
noncomputable def impl_entriesValid_4 (x8 : (List impl_Entry)) (x9 : Int) (x10 : Int) : Option (Bool × Unit) := lim (.head 145 (cont 145 4) ⟨[(8, ⟨(.sl Y_impl_Entry), x8, (.ro [(10000000, 0)])⟩), (9, ⟨(.int .i64), x9, .lit⟩), (10, ⟨(.int .i64), x10, .lit⟩)], []⟩ (.pair .bool .unit) .lit)
/-- impl.noConfig -/
noncomputable def impl_noConfig (a0 : impl_Config) : Option (Bool × Unit) := lim (.call 144 [⟨Y_impl_Config, a0, (.pair .lit (.pair (.ro [(10000000, 0)]) .lit))⟩] (.pair .bool .unit) .lit)
/-- impl.EntryValid -/
noncomputable def impl_EntryValid (a0 : impl_Entry) : Option (Bool × Unit) := lim (.call 146 [⟨Y_impl_Entry, a0, .lit⟩] (.pair .bool .unit) .lit)
/-- impl.CommandValid -/
noncomputable def impl_CommandValid (a0 : impl_Command) : Option (Bool × Unit) := lim (.call 147 [⟨Y_impl_Command, a0, .lit⟩] (.pair .bool .unit) .lit)
/-- impl.routePlace -/
noncomputable def impl_routePlace (a0 : (List impl_Route)) (a1 : Int) : Option (Int × Unit) := lim (.call 150 [⟨(.sl Y_impl_Route), a0, (.ro [(10000000, 0)])⟩, ⟨(.int .i64), a1, .lit⟩] (.pair (.int .i64) .unit) .lit)
noncomputable def impl_routePlace_2 (x1 : Int) (x7 : (List impl_Route)) (x8 : Int) (x9 : Int) : Option (Int × Unit) := lim (.head 150 (cont 150 2) ⟨[(1, ⟨(.int .i64), x1, .lit⟩), (7, ⟨(.sl Y_impl_Route), x7, (.ro [(10000000, 0)])⟩), (8, ⟨(.int .i64), x8, .lit⟩), (9, ⟨(.int .i64), x9, .lit⟩)], []⟩ (.pair (.int .i64) .unit) .lit)
/-- impl.IntervalJoin -/
noncomputable def impl_IntervalJoin (a0 : impl_Interval) (a1 : impl_Interval) : Option ((impl_Interval × (Bool × Unit)) × Unit) := lim (.call 149 [⟨Y_impl_Interval, a0, .lit⟩, ⟨Y_impl_Interval, a1, .lit⟩] (.pair (.tc Y_impl_Interval (.tc .bool .unit)) .unit) .lit)
/-- impl.Route] -/
noncomputable def slices_stableCmpFunc_Route (a0 : (List impl_Route)) (a1 : Int) (a2 : Unit) : Option (Unit × ((List impl_Route) × Unit)) := lim (.call 108 [⟨(.sl Y_impl_Route), a0, (.own .lit)⟩, ⟨(.int .i64), a1, .lit⟩, ⟨(.fn 64 .unit), a2, .lit⟩] (.pair .unit (.tc (.sl Y_impl_Route) .unit)) (.pair .lit (.pair (.own .lit) .lit)))
noncomputable def slices_stableCmpFunc_Route_2 (x1 : Int) (x6 : Int) (x7 : Int) (x8 : Int) (s0 : (List impl_Route)) : Option (Unit × ((List impl_Route) × Unit)) := lim (.head 108 (cont 108 2) ⟨[(0, ⟨(.sl Y_impl_Route), Ty.dflt (.sl Y_impl_Route), (.ref 5000000)⟩), (1, ⟨(.int .i64), x1, .lit⟩), (2, ⟨(.fn 64 .unit), (), .lit⟩), (6, ⟨(.int .i64), x6, .lit⟩), (7, ⟨(.int .i64), x7, .lit⟩), (8, ⟨(.int .i64), x8, .lit⟩)], [.live ⟨(.sl Y_impl_Route), s0, (.own .lit)⟩ 0 0]⟩ (.pair .unit (.tc (.sl Y_impl_Route) .unit)) (.pair .lit (.pair (.own .lit) .lit)))
noncomputable def slices_stableCmpFunc_Route_7 (x1 : Int) (x6 : Int) (s0 : (List impl_Route)) : Option (Unit × ((List impl_Route) × Unit)) := lim (.head 108 (cont 108 7) ⟨[(0, ⟨(.sl Y_impl_Route), Ty.dflt (.sl Y_impl_Route), (.ref 5000000)⟩), (1, ⟨(.int .i64), x1, .lit⟩), (2, ⟨(.fn 64 .unit), (), .lit⟩), (6, ⟨(.int .i64), x6, .lit⟩)], [.live ⟨(.sl Y_impl_Route), s0, (.own .lit)⟩ 0 0]⟩ (.pair .unit (.tc (.sl Y_impl_Route) .unit)) (.pair .lit (.pair (.own .lit) .lit)))
noncomputable def slices_stableCmpFunc_Route_9 (x1 : Int) (x6 : Int) (x7 : Int) (x8 : Int) (s0 : (List impl_Route)) : Option (Unit × ((List impl_Route) × Unit)) := lim (.head 108 (cont 108 9) ⟨[(0, ⟨(.sl Y_impl_Route), Ty.dflt (.sl Y_impl_Route), (.ref 5000000)⟩), (1, ⟨(.int .i64), x1, .lit⟩), (2, ⟨(.fn 64 .unit), (), .lit⟩), (6, ⟨(.int .i64), x6, .lit⟩), (7, ⟨(.int .i64), x7, .lit⟩), (8, ⟨(.int .i64), x8, .lit⟩)], [.live ⟨(.sl Y_impl_Route), s0, (.own .lit)⟩ 0 0]⟩ (.pair .unit (.tc (.sl Y_impl_Route) .unit)) (.pair .lit (.pair (.own .lit) .lit)))
/-- impl.lettersOnly -/
noncomputable def impl_lettersOnly (a0 : ByteArray) : Option (Bool × Unit) := lim (.call 148 [⟨.str, a0, .lit⟩] (.pair .bool .unit) .lit)
/-- spec.KeyValid -/
noncomputable def spec_KeyValid (a0 : ByteArray) : Option (Bool × Unit) := lim (.call 119 [⟨.str, a0, .lit⟩] (.pair .bool .unit) .lit)
noncomputable def spec_KeyValid_4 (x0 : ByteArray) (x3 : Int) : Option (Bool × Unit) := lim (.head 119 (cont 119 4) ⟨[(0, ⟨.str, x0, .lit⟩), (3, ⟨(.int .i64), x3, .lit⟩)], []⟩ (.pair .bool .unit) .lit)
/-- spec.MessageValid -/
noncomputable def spec_MessageValid (a0 : impl_Message) : Option (Bool × Unit) := lim (.call 125 [⟨Y_impl_Message, a0, (.pair .lit (.pair .lit (.pair .lit (.pair (.pair .lit (.pair (.ro [(10000000, 0)]) .lit)) (.pair (.ro [(10000000, 0)]) .lit)))))⟩] (.pair .bool .unit) .lit)
/-- spec.SessionsValid -/
noncomputable def spec_SessionsValid (a0 : (List impl_Session)) : Option (Bool × Unit) := lim (.call 122 [⟨(.sl Y_impl_Session), a0, (.ro [(10000000, 0)])⟩] (.pair .bool .unit) .lit)
noncomputable def spec_SessionsValid_2 (x0 : (List impl_Session)) (x3 : Int) : Option (Bool × Unit) := lim (.head 122 (cont 122 2) ⟨[(0, ⟨(.sl Y_impl_Session), x0, (.ro [(10000000, 0)])⟩), (3, ⟨(.int .i64), x3, .lit⟩)], []⟩ (.pair .bool .unit) .lit)
/-- spec.PairsValid -/
noncomputable def spec_PairsValid (a0 : (List impl_Pair)) : Option (Bool × Unit) := lim (.call 121 [⟨(.sl Y_impl_Pair), a0, (.ro [(10000000, 0)])⟩] (.pair .bool .unit) .lit)
noncomputable def spec_PairsValid_4 (x0 : (List impl_Pair)) (x3 : Int) : Option (Bool × Unit) := lim (.head 121 (cont 121 4) ⟨[(0, ⟨(.sl Y_impl_Pair), x0, (.ro [(10000000, 0)])⟩), (3, ⟨(.int .i64), x3, .lit⟩)], []⟩ (.pair .bool .unit) .lit)
/-- spec.IntervalValid -/
noncomputable def spec_IntervalValid (a0 : impl_Interval) : Option (Bool × Unit) := lim (.call 120 [⟨Y_impl_Interval, a0, .lit⟩] (.pair .bool .unit) .lit)
/-- spec.IntervalHas -/
noncomputable def spec_IntervalHas (a0 : impl_Interval) (a1 : ByteArray) : Option (Bool × Unit) := lim (.call 123 [⟨Y_impl_Interval, a0, .lit⟩, ⟨.str, a1, .lit⟩] (.pair .bool .unit) .lit)
/-- spec.IntervalCut -/
noncomputable def spec_IntervalCut (a0 : impl_Interval) (a1 : ByteArray) : Option ((impl_Interval × (impl_Interval × (Bool × Unit))) × Unit) := lim (.call 124 [⟨Y_impl_Interval, a0, .lit⟩, ⟨.str, a1, .lit⟩] (.pair (.tc Y_impl_Interval (.tc Y_impl_Interval (.tc .bool .unit))) .unit) .lit)
/-- spec.l10Log -/
noncomputable def spec_l10Log (a0 : (List impl_Entry)) : Option (Bool × Unit) := lim (.call 127 [⟨(.sl Y_impl_Entry), a0, (.ro [(10000000, 0)])⟩] (.pair .bool .unit) .lit)
noncomputable def spec_l10Log_2 (x0 : (List impl_Entry)) (x3 : Int) : Option (Bool × Unit) := lim (.head 127 (cont 127 2) ⟨[(0, ⟨(.sl Y_impl_Entry), x0, (.ro [(10000000, 0)])⟩), (3, ⟨(.int .i64), x3, .lit⟩)], []⟩ (.pair .bool .unit) .lit)
/-- spec.l17None -/
noncomputable def spec_l17None (a0 : impl_Config) : Option (Bool × Unit) := lim (.call 126 [⟨Y_impl_Config, a0, (.pair .lit (.pair (.ro [(10000000, 0)]) .lit))⟩] (.pair .bool .unit) .lit)
/-- spec.CommandValid -/
noncomputable def spec_CommandValid (a0 : impl_Command) : Option (Bool × Unit) := lim (.call 128 [⟨Y_impl_Command, a0, .lit⟩] (.pair .bool .unit) .lit)
/-- spec.IntervalJoin -/
noncomputable def spec_IntervalJoin (a0 : impl_Interval) (a1 : impl_Interval) : Option ((impl_Interval × (Bool × Unit)) × Unit) := lim (.call 129 [⟨Y_impl_Interval, a0, .lit⟩, ⟨Y_impl_Interval, a1, .lit⟩] (.pair (.tc Y_impl_Interval (.tc .bool .unit)) .unit) .lit)
/-- laws.szRoute -/
noncomputable def laws_szRoute (a0 : laws_Route) (a1 : Int) : Option (Int × Unit) := lim (.call 118 [⟨Y_laws_Route, a0, .lit⟩, ⟨(.int .i64), a1, .lit⟩] (.pair (.int .i64) .unit) .lit)
/-- laws.szAnswerS -/
noncomputable def laws_szAnswerS (a0 : (List laws_Answer)) (a1 : Int) : Option (Int × Unit) := lim (.call 117 [⟨(.sl Y_laws_Answer), a0, (.ro [(10000000, 0)])⟩, ⟨(.int .i64), a1, .lit⟩] (.pair (.int .i64) .unit) .lit)
noncomputable def laws_szAnswerS_5 (x0 : (List laws_Answer)) (x1 : Int) (x5 : Int) : Option (Int × Unit) := lim (.head 117 (cont 117 5) ⟨[(0, ⟨(.sl Y_laws_Answer), x0, (.ro [(10000000, 0)])⟩), (1, ⟨(.int .i64), x1, .lit⟩), (5, ⟨(.int .i64), x5, .lit⟩)], []⟩ (.pair (.int .i64) .unit) .lit)
/-- laws.szMessageS -/
noncomputable def laws_szMessageS (a0 : (List laws_Message)) (a1 : Int) : Option (Int × Unit) := lim (.call 116 [⟨(.sl Y_laws_Message), a0, (.ro [(10000000, 0)])⟩, ⟨(.int .i64), a1, .lit⟩] (.pair (.int .i64) .unit) .lit)
noncomputable def laws_szMessageS_5 (x0 : (List laws_Message)) (x1 : Int) (x5 : Int) : Option (Int × Unit) := lim (.head 116 (cont 116 5) ⟨[(0, ⟨(.sl Y_laws_Message), x0, (.ro [(10000000, 0)])⟩), (1, ⟨(.int .i64), x1, .lit⟩), (5, ⟨(.int .i64), x5, .lit⟩)], []⟩ (.pair (.int .i64) .unit) .lit)
/-- laws.szBoolS -/
noncomputable def laws_szBoolS (a0 : (List Bool)) (a1 : Int) : Option (Int × Unit) := lim (.call 115 [⟨(.sl .bool), a0, (.ro [(10000000, 0)])⟩, ⟨(.int .i64), a1, .lit⟩] (.pair (.int .i64) .unit) .lit)
/-- laws.szReplicaS -/
noncomputable def laws_szReplicaS (a0 : (List laws_Replica)) (a1 : Int) : Option (Int × Unit) := lim (.call 114 [⟨(.sl Y_laws_Replica), a0, (.ro [(10000000, 0)])⟩, ⟨(.int .i64), a1, .lit⟩] (.pair (.int .i64) .unit) .lit)
noncomputable def laws_szReplicaS_5 (x0 : (List laws_Replica)) (x1 : Int) (x5 : Int) : Option (Int × Unit) := lim (.head 114 (cont 114 5) ⟨[(0, ⟨(.sl Y_laws_Replica), x0, (.ro [(10000000, 0)])⟩), (1, ⟨(.int .i64), x1, .lit⟩), (5, ⟨(.int .i64), x5, .lit⟩)], []⟩ (.pair (.int .i64) .unit) .lit)
/-- laws.szConfig -/
noncomputable def laws_szConfig (a0 : laws_Config) (a1 : Int) : Option (Int × Unit) := lim (.call 113 [⟨Y_laws_Config, a0, (.pair .lit (.pair (.ro [(10000000, 0)]) .lit))⟩, ⟨(.int .i64), a1, .lit⟩] (.pair (.int .i64) .unit) .lit)
/-- laws.szState -/
noncomputable def laws_szState (a0 : laws_State) (a1 : Int) : Option (Int × Unit) := lim (.call 112 [⟨Y_laws_State, a0, (.pair .lit (.pair (.ro [(10000000, 0)]) (.pair (.ro [(10000000, 0)]) .lit)))⟩, ⟨(.int .i64), a1, .lit⟩] (.pair (.int .i64) .unit) .lit)
/-- laws.eqInterval -/
noncomputable def laws_eqInterval (a0 : impl_Interval) (a1 : impl_Interval) : Option (Bool × Unit) := lim (.call 110 [⟨Y_impl_Interval, a0, .lit⟩, ⟨Y_impl_Interval, a1, .lit⟩] (.pair .bool .unit) .lit)
/-- laws.eqAnswer -/
noncomputable def laws_eqAnswer (a0 : impl_Answer) (a1 : impl_Answer) : Option (Bool × Unit) := lim (.call 181 [⟨Y_impl_Answer, a0, .lit⟩, ⟨Y_impl_Answer, a1, .lit⟩] (.pair .bool .unit) .lit)
/-- laws.eqMessage -/
noncomputable def laws_eqMessage (a0 : impl_Message) (a1 : impl_Message) : Option (Bool × Unit) := lim (.call 180 [⟨Y_impl_Message, a0, (.pair .lit (.pair .lit (.pair .lit (.pair (.pair .lit (.pair (.ro [(10000000, 0)]) .lit)) (.pair (.ro [(10000000, 0)]) .lit)))))⟩, ⟨Y_impl_Message, a1, (.pair .lit (.pair .lit (.pair .lit (.pair (.pair .lit (.pair (.ro [(10000001, 0)]) .lit)) (.pair (.ro [(10000001, 0)]) .lit)))))⟩] (.pair .bool .unit) .lit)
/-- laws.eqReplica -/
noncomputable def laws_eqReplica (a0 : impl_Replica) (a1 : impl_Replica) : Option (Bool × Unit) := lim (.call 179 [⟨Y_impl_Replica, a0, (.pair (.pair .lit (.pair (.ro [(10000000, 0)]) .lit)) (.pair .lit (.pair (.ro [(10000000, 0)]) .lit)))⟩, ⟨Y_impl_Replica, a1, (.pair (.pair .lit (.pair (.ro [(10000001, 0)]) .lit)) (.pair .lit (.pair (.ro [(10000001, 0)]) .lit)))⟩] (.pair .bool .unit) .lit)
/-- laws.eqIntS -/
noncomputable def laws_eqIntS (a0 : (List Int)) (a1 : (List Int)) : Option (Bool × Unit) := lim (.call 178 [⟨(.sl (.int .i64)), a0, (.ro [(10000000, 0)])⟩, ⟨(.sl (.int .i64)), a1, (.ro [(10000001, 0)])⟩] (.pair .bool .unit) .lit)
noncomputable def laws_eqIntS_4 (x0 : (List Int)) (x1 : (List Int)) (x5 : Int) : Option (Bool × Unit) := lim (.head 178 (cont 178 4) ⟨[(0, ⟨(.sl (.int .i64)), x0, (.ro [(10000000, 0)])⟩), (1, ⟨(.sl (.int .i64)), x1, (.ro [(10000001, 0)])⟩), (5, ⟨(.int .i64), x5, .lit⟩)], []⟩ (.pair .bool .unit) .lit)
/-- laws.eqSessionS -/
noncomputable def laws_eqSessionS (a0 : (List impl_Session)) (a1 : (List impl_Session)) : Option (Bool × Unit) := lim (.call 177 [⟨(.sl Y_impl_Session), a0, (.ro [(10000000, 0)])⟩, ⟨(.sl Y_impl_Session), a1, (.ro [(10000001, 0)])⟩] (.pair .bool .unit) .lit)
noncomputable def laws_eqSessionS_4 (x0 : (List impl_Session)) (x1 : (List impl_Session)) (x5 : Int) : Option (Bool × Unit) := lim (.head 177 (cont 177 4) ⟨[(0, ⟨(.sl Y_impl_Session), x0, (.ro [(10000000, 0)])⟩), (1, ⟨(.sl Y_impl_Session), x1, (.ro [(10000001, 0)])⟩), (5, ⟨(.int .i64), x5, .lit⟩)], []⟩ (.pair .bool .unit) .lit)
/-- laws.eqPairS -/
noncomputable def laws_eqPairS (a0 : (List impl_Pair)) (a1 : (List impl_Pair)) : Option (Bool × Unit) := lim (.call 176 [⟨(.sl Y_impl_Pair), a0, (.ro [(10000000, 0)])⟩, ⟨(.sl Y_impl_Pair), a1, (.ro [(10000001, 0)])⟩] (.pair .bool .unit) .lit)
noncomputable def laws_eqPairS_4 (x0 : (List impl_Pair)) (x1 : (List impl_Pair)) (x5 : Int) : Option (Bool × Unit) := lim (.head 176 (cont 176 4) ⟨[(0, ⟨(.sl Y_impl_Pair), x0, (.ro [(10000000, 0)])⟩), (1, ⟨(.sl Y_impl_Pair), x1, (.ro [(10000001, 0)])⟩), (5, ⟨(.int .i64), x5, .lit⟩)], []⟩ (.pair .bool .unit) .lit)
/-- laws.toInterval -/
noncomputable def laws_toInterval (a0 : laws_Interval) : Option (impl_Interval × Unit) := lim (.call 166 [⟨Y_laws_Interval, a0, .lit⟩] (.pair Y_impl_Interval .unit) .lit)
/-- laws.toAnswer -/
noncomputable def laws_toAnswer (a0 : laws_Answer) : Option (impl_Answer × Unit) := lim (.call 172 [⟨Y_laws_Answer, a0, .lit⟩] (.pair Y_impl_Answer .unit) .lit)
/-- laws.toMessage -/
noncomputable def laws_toMessage (a0 : laws_Message) : Option (impl_Message × Unit) := lim (.call 171 [⟨Y_laws_Message, a0, (.pair .lit (.pair .lit (.pair .lit (.pair (.pair .lit (.pair (.ro [(10000000, 0)]) .lit)) (.pair (.ro [(10000000, 0)]) .lit)))))⟩] (.pair Y_impl_Message .unit) (.pair (.pair .lit (.pair .lit (.pair .lit (.pair (.pair .lit (.pair (.own .lit) .lit)) (.pair (.own .lit) .lit))))) .lit))
/-- laws.toReplica -/
noncomputable def laws_toReplica (a0 : laws_Replica) : Option (impl_Replica × Unit) := lim (.call 170 [⟨Y_laws_Replica, a0, (.pair (.pair .lit (.pair (.ro [(10000000, 0)]) .lit)) (.pair .lit (.pair (.ro [(10000000, 0)]) .lit)))⟩] (.pair Y_impl_Replica .unit) (.pair (.pair (.pair .lit (.pair (.own .lit) .lit)) (.pair .lit (.pair (.own .lit) .lit))) .lit))
/-- laws.toIntS -/
noncomputable def laws_toIntS (a0 : (List Int)) : Option ((List Int) × Unit) := lim (.call 169 [⟨(.sl (.int .i64)), a0, (.ro [(10000000, 0)])⟩] (.pair (.sl (.int .i64)) .unit) (.pair (.own .lit) .lit))
noncomputable def laws_toIntS_3 (x0 : (List Int)) (x4 : Int) (s0 : (List Int)) : Option ((List Int) × Unit) := lim (.head 169 (cont 169 3) ⟨[(0, ⟨(.sl (.int .i64)), x0, (.ro [(10000000, 0)])⟩), (3, ⟨(.sl (.int .i64)), Ty.dflt (.sl (.int .i64)), (.ref 5000000)⟩), (4, ⟨(.int .i64), x4, .lit⟩)], [.live ⟨(.sl (.int .i64)), s0, (.own .lit)⟩ 0 0]⟩ (.pair (.sl (.int .i64)) .unit) (.pair (.own .lit) .lit))
/-- laws.toSessionS -/
noncomputable def laws_toSessionS (a0 : (List laws_Session)) : Option ((List impl_Session) × Unit) := lim (.call 168 [⟨(.sl Y_laws_Session), a0, (.ro [(10000000, 0)])⟩] (.pair (.sl Y_impl_Session) .unit) (.pair (.own .lit) .lit))
noncomputable def laws_toSessionS_3 (x0 : (List laws_Session)) (x4 : Int) (s0 : (List impl_Session)) : Option ((List impl_Session) × Unit) := lim (.head 168 (cont 168 3) ⟨[(0, ⟨(.sl Y_laws_Session), x0, (.ro [(10000000, 0)])⟩), (3, ⟨(.sl Y_impl_Session), Ty.dflt (.sl Y_impl_Session), (.ref 5000000)⟩), (4, ⟨(.int .i64), x4, .lit⟩)], [.live ⟨(.sl Y_impl_Session), s0, (.own .lit)⟩ 0 0]⟩ (.pair (.sl Y_impl_Session) .unit) (.pair (.own .lit) .lit))
/-- laws.toPairS -/
noncomputable def laws_toPairS (a0 : (List laws_Pair)) : Option ((List impl_Pair) × Unit) := lim (.call 167 [⟨(.sl Y_laws_Pair), a0, (.ro [(10000000, 0)])⟩] (.pair (.sl Y_impl_Pair) .unit) (.pair (.own .lit) .lit))
noncomputable def laws_toPairS_3 (x0 : (List laws_Pair)) (x4 : Int) (s0 : (List impl_Pair)) : Option ((List impl_Pair) × Unit) := lim (.head 167 (cont 167 3) ⟨[(0, ⟨(.sl Y_laws_Pair), x0, (.ro [(10000000, 0)])⟩), (3, ⟨(.sl Y_impl_Pair), Ty.dflt (.sl Y_impl_Pair), (.ref 5000000)⟩), (4, ⟨(.int .i64), x4, .lit⟩)], [.live ⟨(.sl Y_impl_Pair), s0, (.own .lit)⟩ 0 0]⟩ (.pair (.sl Y_impl_Pair) .unit) (.pair (.own .lit) .lit))
/-- slices.Index[[]int,int] -/
noncomputable def slices_Index_sint_int (a0 : (List Int)) (a1 : Int) : Option (Int × Unit) := lim (.call 175 [⟨(.sl (.int .i64)), a0, (.ro [(10000000, 0)])⟩, ⟨(.int .i64), a1, .lit⟩] (.pair (.int .i64) .unit) .lit)
noncomputable def slices_Index_sint_int_2 (x0 : (List Int)) (x1 : Int) (x7 : Int) (x8 : Int) : Option (Int × Unit) := lim (.head 175 (cont 175 2) ⟨[(0, ⟨(.sl (.int .i64)), x0, (.ro [(10000000, 0)])⟩), (1, ⟨(.int .i64), x1, .lit⟩), (7, ⟨(.int .i64), x7, .lit⟩), (8, ⟨(.int .i64), x8, .lit⟩)], []⟩ (.pair (.int .i64) .unit) .lit)
/-- impl.valueValid -/
noncomputable def impl_valueValid (a0 : Int) : Option (Bool × Unit) := lim (.call 174 [⟨(.int .i64), a0, .lit⟩] (.pair .bool .unit) .lit)
/-- impl.lowestKey -/
noncomputable def impl_lowestKey (a0 : impl_Interval) : Option (ByteArray × Unit) := lim (.call 173 [⟨Y_impl_Interval, a0, .lit⟩] (.pair .str .unit) .lit)
/-- impl.Route] -/
noncomputable def slices_insertionSortCmpFunc_Route (a0 : (List impl_Route)) (a1 : Int) (a2 : Int) (a3 : Unit) : Option (Unit × ((List impl_Route) × Unit)) := lim (.call 157 [⟨(.sl Y_impl_Route), a0, (.own .lit)⟩, ⟨(.int .i64), a1, .lit⟩, ⟨(.int .i64), a2, .lit⟩, ⟨(.fn 64 .unit), a3, .lit⟩] (.pair .unit (.tc (.sl Y_impl_Route) .unit)) (.pair .lit (.pair (.own .lit) .lit)))
noncomputable def slices_insertionSortCmpFunc_Route_1 (x1 : Int) (x2 : Int) (x8 : Int) (s0 : (List impl_Route)) : Option (Unit × ((List impl_Route) × Unit)) := lim (.head 157 (cont 157 1) ⟨[(0, ⟨(.sl Y_impl_Route), Ty.dflt (.sl Y_impl_Route), (.ref 5000000)⟩), (1, ⟨(.int .i64), x1, .lit⟩), (2, ⟨(.int .i64), x2, .lit⟩), (3, ⟨(.fn 64 .unit), (), .lit⟩), (8, ⟨(.int .i64), x8, .lit⟩)], [.live ⟨(.sl Y_impl_Route), s0, (.own .lit)⟩ 0 0]⟩ (.pair .unit (.tc (.sl Y_impl_Route) .unit)) (.pair .lit (.pair (.own .lit) .lit)))
noncomputable def slices_insertionSortCmpFunc_Route_4 (x1 : Int) (x2 : Int) (x8 : Int) (x9 : Int) (s0 : (List impl_Route)) : Option (Unit × ((List impl_Route) × Unit)) := lim (.head 157 (cont 157 4) ⟨[(0, ⟨(.sl Y_impl_Route), Ty.dflt (.sl Y_impl_Route), (.ref 5000000)⟩), (1, ⟨(.int .i64), x1, .lit⟩), (2, ⟨(.int .i64), x2, .lit⟩), (3, ⟨(.fn 64 .unit), (), .lit⟩), (8, ⟨(.int .i64), x8, .lit⟩), (9, ⟨(.int .i64), x9, .lit⟩)], [.live ⟨(.sl Y_impl_Route), s0, (.own .lit)⟩ 0 0]⟩ (.pair .unit (.tc (.sl Y_impl_Route) .unit)) (.pair .lit (.pair (.own .lit) .lit)))
/-- impl.Route] -/
noncomputable def slices_symMergeCmpFunc_Route (a0 : (List impl_Route)) (a1 : Int) (a2 : Int) (a3 : Int) (a4 : Unit) : Option (Unit × ((List impl_Route) × Unit)) := lim (.call 158 [⟨(.sl Y_impl_Route), a0, (.own .lit)⟩, ⟨(.int .i64), a1, .lit⟩, ⟨(.int .i64), a2, .lit⟩, ⟨(.int .i64), a3, .lit⟩, ⟨(.fn 64 .unit), a4, .lit⟩] (.pair .unit (.tc (.sl Y_impl_Route) .unit)) (.pair .lit (.pair (.own .lit) .lit)))
noncomputable def slices_symMergeCmpFunc_Route_3 (x1 : Int) (x10 : Int) (x11 : Int) (s0 : (List impl_Route)) : Option (Unit × ((List impl_Route) × Unit)) := lim (.head 158 (cont 158 3) ⟨[(0, ⟨(.sl Y_impl_Route), Ty.dflt (.sl Y_impl_Route), (.ref 5000000)⟩), (1, ⟨(.int .i64), x1, .lit⟩), (4, ⟨(.fn 64 .unit), (), .lit⟩), (10, ⟨(.int .i64), x10, .lit⟩), (11, ⟨(.int .i64), x11, .lit⟩)], [.live ⟨(.sl Y_impl_Route), s0, (.own .lit)⟩ 0 0]⟩ (.pair .unit (.tc (.sl Y_impl_Route) .unit)) (.pair .lit (.pair (.own .lit) .lit)))
noncomputable def slices_symMergeCmpFunc_Route_15 (x2 : Int) (x14 : Int) (x15 : Int) (s0 : (List impl_Route)) : Option (Unit × ((List impl_Route) × Unit)) := lim (.head 158 (cont 158 15) ⟨[(0, ⟨(.sl Y_impl_Route), Ty.dflt (.sl Y_impl_Route), (.ref 5000000)⟩), (2, ⟨(.int .i64), x2, .lit⟩), (4, ⟨(.fn 64 .unit), (), .lit⟩), (14, ⟨(.int .i64), x14, .lit⟩), (15, ⟨(.int .i64), x15, .lit⟩)], [.live ⟨(.sl Y_impl_Route), s0, (.own .lit)⟩ 0 0]⟩ (.pair .unit (.tc (.sl Y_impl_Route) .unit)) (.pair .lit (.pair (.own .lit) .lit)))
noncomputable def slices_symMergeCmpFunc_Route_33 (x1 : Int) (x2 : Int) (x3 : Int) (x18 : Int) (x19 : Int) (x20 : Int) (x21 : Int) (x22 : Int) (s0 : (List impl_Route)) : Option (Unit × ((List impl_Route) × Unit)) := lim (.head 158 (cont 158 33) ⟨[(0, ⟨(.sl Y_impl_Route), Ty.dflt (.sl Y_impl_Route), (.ref 5000000)⟩), (1, ⟨(.int .i64), x1, .lit⟩), (2, ⟨(.int .i64), x2, .lit⟩), (3, ⟨(.int .i64), x3, .lit⟩), (4, ⟨(.fn 64 .unit), (), .lit⟩), (18, ⟨(.int .i64), x18, .lit⟩), (19, ⟨(.int .i64), x19, .lit⟩), (20, ⟨(.int .i64), x20, .lit⟩), (21, ⟨(.int .i64), x21, .lit⟩), (22, ⟨(.int .i64), x22, .lit⟩)], [.live ⟨(.sl Y_impl_Route), s0, (.own .lit)⟩ 0 0]⟩ (.pair .unit (.tc (.sl Y_impl_Route) .unit)) (.pair .lit (.pair (.own .lit) .lit)))
noncomputable def slices_symMergeCmpFunc_Route_9 (x10 : Int) (x13 : Int) (s0 : (List impl_Route)) : Option (Unit × ((List impl_Route) × Unit)) := lim (.head 158 (cont 158 9) ⟨[(0, ⟨(.sl Y_impl_Route), Ty.dflt (.sl Y_impl_Route), (.ref 5000000)⟩), (10, ⟨(.int .i64), x10, .lit⟩), (13, ⟨(.int .i64), x13, .lit⟩)], [.live ⟨(.sl Y_impl_Route), s0, (.own .lit)⟩ 0 0]⟩ (.pair .unit (.tc (.sl Y_impl_Route) .unit)) (.pair .lit (.pair (.own .lit) .lit)))
noncomputable def slices_symMergeCmpFunc_Route_21 (x14 : Int) (x17 : Int) (s0 : (List impl_Route)) : Option (Unit × ((List impl_Route) × Unit)) := lim (.head 158 (cont 158 21) ⟨[(0, ⟨(.sl Y_impl_Route), Ty.dflt (.sl Y_impl_Route), (.ref 5000000)⟩), (14, ⟨(.int .i64), x14, .lit⟩), (17, ⟨(.int .i64), x17, .lit⟩)], [.live ⟨(.sl Y_impl_Route), s0, (.own .lit)⟩ 0 0]⟩ (.pair .unit (.tc (.sl Y_impl_Route) .unit)) (.pair .lit (.pair (.own .lit) .lit)))
noncomputable def slices_symMergeCmpFunc_Route_43 (x3 : Int) (x18 : Int) (x24 : Int) (s0 : (List impl_Route)) : Option (Unit × ((List impl_Route) × Unit)) := lim (.head 158 (cont 158 43) ⟨[(0, ⟨(.sl Y_impl_Route), Ty.dflt (.sl Y_impl_Route), (.ref 5000000)⟩), (3, ⟨(.int .i64), x3, .lit⟩), (4, ⟨(.fn 64 .unit), (), .lit⟩), (18, ⟨(.int .i64), x18, .lit⟩), (24, ⟨(.int .i64), x24, .lit⟩)], [.live ⟨(.sl Y_impl_Route), s0, (.own .lit)⟩ 0 0]⟩ (.pair .unit (.tc (.sl Y_impl_Route) .unit)) (.pair .lit (.pair (.own .lit) .lit)))
/-- laws.szInterval -/
noncomputable def laws_szInterval (a0 : laws_Interval) (a1 : Int) : Option (Int × Unit) := lim (.call 159 [⟨Y_laws_Interval, a0, .lit⟩, ⟨(.int .i64), a1, .lit⟩] (.pair (.int .i64) .unit) .lit)
/-- laws.szAnswer -/
noncomputable def laws_szAnswer (a0 : laws_Answer) (a1 : Int) : Option (Int × Unit) := lim (.call 165 [⟨Y_laws_Answer, a0, .lit⟩, ⟨(.int .i64), a1, .lit⟩] (.pair (.int .i64) .unit) .lit)
/-- laws.szMessage -/
noncomputable def laws_szMessage (a0 : laws_Message) (a1 : Int) : Option (Int × Unit) := lim (.call 164 [⟨Y_laws_Message, a0, (.pair .lit (.pair .lit (.pair .lit (.pair (.pair .lit (.pair (.ro [(10000000, 0)]) .lit)) (.pair (.ro [(10000000, 0)]) .lit)))))⟩, ⟨(.int .i64), a1, .lit⟩] (.pair (.int .i64) .unit) .lit)
/-- laws.szReplica -/
noncomputable def laws_szReplica (a0 : laws_Replica) (a1 : Int) : Option (Int × Unit) := lim (.call 163 [⟨Y_laws_Replica, a0, (.pair (.pair .lit (.pair (.ro [(10000000, 0)]) .lit)) (.pair .lit (.pair (.ro [(10000000, 0)]) .lit)))⟩, ⟨(.int .i64), a1, .lit⟩] (.pair (.int .i64) .unit) .lit)
/-- laws.szIntS -/
noncomputable def laws_szIntS (a0 : (List Int)) (a1 : Int) : Option (Int × Unit) := lim (.call 162 [⟨(.sl (.int .i64)), a0, (.ro [(10000000, 0)])⟩, ⟨(.int .i64), a1, .lit⟩] (.pair (.int .i64) .unit) .lit)
/-- laws.szSessionS -/
noncomputable def laws_szSessionS (a0 : (List laws_Session)) (a1 : Int) : Option (Int × Unit) := lim (.call 161 [⟨(.sl Y_laws_Session), a0, (.ro [(10000000, 0)])⟩, ⟨(.int .i64), a1, .lit⟩] (.pair (.int .i64) .unit) .lit)
/-- laws.szPairS -/
noncomputable def laws_szPairS (a0 : (List laws_Pair)) (a1 : Int) : Option (Int × Unit) := lim (.call 160 [⟨(.sl Y_laws_Pair), a0, (.ro [(10000000, 0)])⟩, ⟨(.int .i64), a1, .lit⟩] (.pair (.int .i64) .unit) .lit)
noncomputable def laws_szPairS_5 (x0 : (List laws_Pair)) (x1 : Int) (x5 : Int) : Option (Int × Unit) := lim (.head 160 (cont 160 5) ⟨[(0, ⟨(.sl Y_laws_Pair), x0, (.ro [(10000000, 0)])⟩), (1, ⟨(.int .i64), x1, .lit⟩), (5, ⟨(.int .i64), x5, .lit⟩)], []⟩ (.pair (.int .i64) .unit) .lit)
/-- laws.eqEntry -/
noncomputable def laws_eqEntry (a0 : impl_Entry) (a1 : impl_Entry) : Option (Bool × Unit) := lim (.call 193 [⟨Y_impl_Entry, a0, .lit⟩, ⟨Y_impl_Entry, a1, .lit⟩] (.pair .bool .unit) .lit)
/-- laws.eqEntryS -/
noncomputable def laws_eqEntryS (a0 : (List impl_Entry)) (a1 : (List impl_Entry)) : Option (Bool × Unit) := lim (.call 192 [⟨(.sl Y_impl_Entry), a0, (.ro [(10000000, 0)])⟩, ⟨(.sl Y_impl_Entry), a1, (.ro [(10000001, 0)])⟩] (.pair .bool .unit) .lit)
noncomputable def laws_eqEntryS_4 (x0 : (List impl_Entry)) (x1 : (List impl_Entry)) (x5 : Int) : Option (Bool × Unit) := lim (.head 192 (cont 192 4) ⟨[(0, ⟨(.sl Y_impl_Entry), x0, (.ro [(10000000, 0)])⟩), (1, ⟨(.sl Y_impl_Entry), x1, (.ro [(10000001, 0)])⟩), (5, ⟨(.int .i64), x5, .lit⟩)], []⟩ (.pair .bool .unit) .lit)
/-- laws.eqSession -/
noncomputable def laws_eqSession (a0 : impl_Session) (a1 : impl_Session) : Option (Bool × Unit) := lim (.call 191 [⟨Y_impl_Session, a0, .lit⟩, ⟨Y_impl_Session, a1, .lit⟩] (.pair .bool .unit) .lit)
/-- laws.eqPair -/
noncomputable def laws_eqPair (a0 : impl_Pair) (a1 : impl_Pair) : Option (Bool × Unit) := lim (.call 190 [⟨Y_impl_Pair, a0, .lit⟩, ⟨Y_impl_Pair, a1, .lit⟩] (.pair .bool .unit) .lit)
/-- laws.toEntry -/
noncomputable def laws_toEntry (a0 : laws_Entry) : Option (impl_Entry × Unit) := lim (.call 189 [⟨Y_laws_Entry, a0, .lit⟩] (.pair Y_impl_Entry .unit) .lit)
/-- laws.toEntryS -/
noncomputable def laws_toEntryS (a0 : (List laws_Entry)) : Option ((List impl_Entry) × Unit) := lim (.call 188 [⟨(.sl Y_laws_Entry), a0, (.ro [(10000000, 0)])⟩] (.pair (.sl Y_impl_Entry) .unit) (.pair (.own .lit) .lit))
noncomputable def laws_toEntryS_3 (x0 : (List laws_Entry)) (x4 : Int) (s0 : (List impl_Entry)) : Option ((List impl_Entry) × Unit) := lim (.head 188 (cont 188 3) ⟨[(0, ⟨(.sl Y_laws_Entry), x0, (.ro [(10000000, 0)])⟩), (3, ⟨(.sl Y_impl_Entry), Ty.dflt (.sl Y_impl_Entry), (.ref 5000000)⟩), (4, ⟨(.int .i64), x4, .lit⟩)], [.live ⟨(.sl Y_impl_Entry), s0, (.own .lit)⟩ 0 0]⟩ (.pair (.sl Y_impl_Entry) .unit) (.pair (.own .lit) .lit))
/-- laws.toSession -/
noncomputable def laws_toSession (a0 : laws_Session) : Option (impl_Session × Unit) := lim (.call 187 [⟨Y_laws_Session, a0, .lit⟩] (.pair Y_impl_Session .unit) .lit)
/-- laws.toPair -/
noncomputable def laws_toPair (a0 : laws_Pair) : Option (impl_Pair × Unit) := lim (.call 186 [⟨Y_laws_Pair, a0, .lit⟩] (.pair Y_impl_Pair .unit) .lit)
/-- impl.liveRoutes$1 -/
noncomputable def impl_liveRoutes_c1 (a0 : impl_Route) (a1 : impl_Route) : Option (Int × Unit) := lim (.call 64 [⟨Y_impl_Route, a0, .lit⟩, ⟨Y_impl_Route, a1, .lit⟩] (.pair (.int .i64) .unit) .lit)
/-- impl.Route] -/
noncomputable def slices_rotateCmpFunc_Route (a0 : (List impl_Route)) (a1 : Int) (a2 : Int) (a3 : Int) (a4 : Unit) : Option (Unit × ((List impl_Route) × Unit)) := lim (.call 182 [⟨(.sl Y_impl_Route), a0, (.own .lit)⟩, ⟨(.int .i64), a1, .lit⟩, ⟨(.int .i64), a2, .lit⟩, ⟨(.int .i64), a3, .lit⟩, ⟨(.fn 64 .unit), a4, .lit⟩] (.pair .unit (.tc (.sl Y_impl_Route) .unit)) (.pair .lit (.pair (.own .lit) .lit)))
noncomputable def slices_rotateCmpFunc_Route_2 (x2 : Int) (x10 : Int) (x11 : Int) (s0 : (List impl_Route)) : Option (Unit × ((List impl_Route) × Unit)) := lim (.head 182 (cont 182 2) ⟨[(0, ⟨(.sl Y_impl_Route), Ty.dflt (.sl Y_impl_Route), (.ref 5000000)⟩), (2, ⟨(.int .i64), x2, .lit⟩), (4, ⟨(.fn 64 .unit), (), .lit⟩), (10, ⟨(.int .i64), x10, .lit⟩), (11, ⟨(.int .i64), x11, .lit⟩)], [.live ⟨(.sl Y_impl_Route), s0, (.own .lit)⟩ 0 0]⟩ (.pair .unit (.tc (.sl Y_impl_Route) .unit)) (.pair .lit (.pair (.own .lit) .lit)))
/-- laws.szEntry -/
noncomputable def laws_szEntry (a0 : laws_Entry) (a1 : Int) : Option (Int × Unit) := lim (.call 185 [⟨Y_laws_Entry, a0, .lit⟩, ⟨(.int .i64), a1, .lit⟩] (.pair (.int .i64) .unit) .lit)
/-- laws.szEntryS -/
noncomputable def laws_szEntryS (a0 : (List laws_Entry)) (a1 : Int) : Option (Int × Unit) := lim (.call 184 [⟨(.sl Y_laws_Entry), a0, (.ro [(10000000, 0)])⟩, ⟨(.int .i64), a1, .lit⟩] (.pair (.int .i64) .unit) .lit)
noncomputable def laws_szEntryS_5 (x0 : (List laws_Entry)) (x1 : Int) (x5 : Int) : Option (Int × Unit) := lim (.head 184 (cont 184 5) ⟨[(0, ⟨(.sl Y_laws_Entry), x0, (.ro [(10000000, 0)])⟩), (1, ⟨(.int .i64), x1, .lit⟩), (5, ⟨(.int .i64), x5, .lit⟩)], []⟩ (.pair (.int .i64) .unit) .lit)
/-- laws.szPair -/
noncomputable def laws_szPair (a0 : laws_Pair) (a1 : Int) : Option (Int × Unit) := lim (.call 183 [⟨Y_laws_Pair, a0, .lit⟩, ⟨(.int .i64), a1, .lit⟩] (.pair (.int .i64) .unit) .lit)
/-- cmp.Compare[string] -/
noncomputable def cmp_Compare_string (a0 : ByteArray) (a1 : ByteArray) : Option (Int × Unit) := lim (.call 65 [⟨.str, a0, .lit⟩, ⟨.str, a1, .lit⟩] (.pair (.int .i64) .unit) .lit)
/-- impl.Route] -/
noncomputable def slices_swapRangeCmpFunc_Route (a0 : (List impl_Route)) (a1 : Int) (a2 : Int) (a3 : Int) (a4 : Unit) : Option (Unit × ((List impl_Route) × Unit)) := lim (.call 194 [⟨(.sl Y_impl_Route), a0, (.own .lit)⟩, ⟨(.int .i64), a1, .lit⟩, ⟨(.int .i64), a2, .lit⟩, ⟨(.int .i64), a3, .lit⟩, ⟨(.fn 64 .unit), a4, .lit⟩] (.pair .unit (.tc (.sl Y_impl_Route) .unit)) (.pair .lit (.pair (.own .lit) .lit)))
noncomputable def slices_swapRangeCmpFunc_Route_1 (x1 : Int) (x2 : Int) (x3 : Int) (x10 : Int) (s0 : (List impl_Route)) : Option (Unit × ((List impl_Route) × Unit)) := lim (.head 194 (cont 194 1) ⟨[(0, ⟨(.sl Y_impl_Route), Ty.dflt (.sl Y_impl_Route), (.ref 5000000)⟩), (1, ⟨(.int .i64), x1, .lit⟩), (2, ⟨(.int .i64), x2, .lit⟩), (3, ⟨(.int .i64), x3, .lit⟩), (10, ⟨(.int .i64), x10, .lit⟩)], [.live ⟨(.sl Y_impl_Route), s0, (.own .lit)⟩ 0 0]⟩ (.pair .unit (.tc (.sl Y_impl_Route) .unit)) (.pair .lit (.pair (.own .lit) .lit)))
/-- cmp.isNaN[string] -/
noncomputable def cmp_isNaN_string (a0 : ByteArray) : Option (Bool × Unit) := lim (.call 109 [⟨.str, a0, .lit⟩] (.pair .bool .unit) .lit)
end Go.Proofs.YtoiddibdlmcecaaGreat.Ev
