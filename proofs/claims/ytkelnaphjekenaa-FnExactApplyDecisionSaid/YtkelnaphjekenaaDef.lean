/- The functions, as limits of the evaluator's runs. No condition. -/
import Derived.Test.YtkelnaphjekenaaTab
set_option maxRecDepth 100000
set_option linter.unusedVariables false
namespace Go.Proofs.Ytkelnaphjekenaa.Ev
open Go.Proofs.Ytkelnaphjekenaa.Eng
open Go.RowKit (wrap64)
/-- laws.FnExactApplyDecision -/
noncomputable def laws_FnExactApplyDecision (a0 : laws_Master) (a1 : laws_Decision) : Option (Bool × Unit) := lim (.call 3 [⟨Y_laws_Master, a0, (.pair (.ro [(10000000, 0)]) .lit)⟩, ⟨Y_laws_Decision, a1, .lit⟩] (.pair .bool .unit) .lit)
/-- laws.heldMaster -/
noncomputable def laws_heldMaster (a0 : impl_Master) (a1 : Int) : Option (Int × Unit) := lim (.call 14 [⟨Y_impl_Master, a0, (.pair (.ro [(10000000, 0)]) .lit)⟩, ⟨(.int .i64), a1, .lit⟩] (.pair (.int .i64) .unit) .lit)
/-- laws.eqMaster -/
noncomputable def laws_eqMaster (a0 : impl_Master) (a1 : impl_Master) : Option (Bool × Unit) := lim (.call 12 [⟨Y_impl_Master, a0, (.pair (.ro [(10000000, 0)]) .lit)⟩, ⟨Y_impl_Master, a1, (.pair (.ro [(10000001, 0)]) .lit)⟩] (.pair .bool .unit) .lit)
/-- impl.ApplyDecision -/
noncomputable def impl_ApplyDecision (a0 : impl_Master) (a1 : impl_Decision) : Option ((impl_Master × (Bool × Unit)) × Unit) := lim (.call 11 [⟨Y_impl_Master, a0, (.pair (.ro [(10000000, 0)]) .lit)⟩, ⟨Y_impl_Decision, a1, .lit⟩] (.pair (.tc Y_impl_Master (.tc .bool .unit)) .unit) (.pair (.pair (.pair (.own .lit) .lit) .lit) .lit))
noncomputable def impl_ApplyDecision_17 (x7 : Bool) (s0 : impl_Master) (s1 : impl_Decision) (s2 : impl_Master) (s3 : impl_Master) (s4 : (List impl_Route)) (s5 : (List impl_Route)) : Option ((impl_Master × (Bool × Unit)) × Unit) := lim (.head 11 (cont 11 17) ⟨[(2, ⟨(.bx Y_impl_Master), Ty.dflt (.bx Y_impl_Master), (.ref 5000000)⟩), (3, ⟨(.bx Y_impl_Decision), Ty.dflt (.bx Y_impl_Decision), (.ref 5000001)⟩), (4, ⟨(.bx Y_impl_Master), Ty.dflt (.bx Y_impl_Master), (.ref 5000002)⟩), (6, ⟨(.bx Y_impl_Master), Ty.dflt (.bx Y_impl_Master), (.ref 5000003)⟩), (7, ⟨.bool, x7, .lit⟩)], [.live ⟨(.bx Y_impl_Master), s0, (.own (.pair (.ro [(10000000, 0)]) .lit))⟩ 0 0, .live ⟨(.bx Y_impl_Decision), s1, (.own .lit)⟩ 0 0, .live ⟨(.bx Y_impl_Master), s2, (.own (.pair (.ref 5000004) .lit))⟩ 0 0, .live ⟨(.bx Y_impl_Master), s3, (.own (.pair (.ref 5000005) .lit))⟩ 0 0, .live ⟨(.sl Y_impl_Route), s4, (.own .lit)⟩ 0 0, .live ⟨(.sl Y_impl_Route), s5, (.own .lit)⟩ 0 0]⟩ (.pair (.tc Y_impl_Master (.tc .bool .unit)) .unit) (.pair (.pair (.pair (.own .lit) .lit) .lit) .lit))
/-- laws.toDecision -/
noncomputable def laws_toDecision (a0 : laws_Decision) : Option (impl_Decision × Unit) := lim (.call 10 [⟨Y_laws_Decision, a0, .lit⟩] (.pair Y_impl_Decision .unit) .lit)
/-- laws.toMaster -/
noncomputable def laws_toMaster (a0 : laws_Master) : Option (impl_Master × Unit) := lim (.call 9 [⟨Y_laws_Master, a0, (.pair (.ro [(10000000, 0)]) .lit)⟩] (.pair Y_impl_Master .unit) (.pair (.pair (.own .lit) .lit) .lit))
/-- laws.markMaster -/
noncomputable def laws_markMaster (a0 : impl_Master) (a1 : Int) : Option (Int × (impl_Master × Unit)) := lim (.call 13 [⟨Y_impl_Master, a0, (.pair (.own .lit) .lit)⟩, ⟨(.int .i64), a1, .lit⟩] (.pair (.int .i64) (.tc Y_impl_Master .unit)) (.pair .lit (.pair (.pair (.own .lit) .lit) .lit)))
/-- spec.ApplyDecision -/
noncomputable def spec_ApplyDecision (a0 : impl_Master) (a1 : impl_Decision) : Option ((impl_Master × (Bool × Unit)) × Unit) := lim (.call 8 [⟨Y_impl_Master, a0, (.pair (.ro [(10000000, 0)]) .lit)⟩, ⟨Y_impl_Decision, a1, .lit⟩] (.pair (.tc Y_impl_Master (.tc .bool .unit)) .unit) (.pair (.pair (.pair (.own .lit) .lit) .lit) .lit))
noncomputable def spec_ApplyDecision_10 (x9 : Bool) (s0 : impl_Master) (s1 : impl_Decision) (s2 : impl_Master) (s3 : impl_Master) (s4 : impl_Master) (s5 : (List impl_Route)) (s6 : (List impl_Route)) (s7 : (List impl_Route)) : Option ((impl_Master × (Bool × Unit)) × Unit) := lim (.head 8 (cont 8 10) ⟨[(2, ⟨(.bx Y_impl_Master), Ty.dflt (.bx Y_impl_Master), (.ref 5000000)⟩), (3, ⟨(.bx Y_impl_Decision), Ty.dflt (.bx Y_impl_Decision), (.ref 5000001)⟩), (4, ⟨(.bx Y_impl_Master), Ty.dflt (.bx Y_impl_Master), (.ref 5000002)⟩), (6, ⟨(.bx Y_impl_Master), Ty.dflt (.bx Y_impl_Master), (.ref 5000003)⟩), (7, ⟨(.bx Y_impl_Master), Ty.dflt (.bx Y_impl_Master), (.ref 5000004)⟩), (9, ⟨.bool, x9, .lit⟩)], [.live ⟨(.bx Y_impl_Master), s0, (.own (.pair (.ro [(10000000, 0)]) .lit))⟩ 0 0, .live ⟨(.bx Y_impl_Decision), s1, (.own .lit)⟩ 0 0, .live ⟨(.bx Y_impl_Master), s2, (.own (.pair (.ref 5000005) .lit))⟩ 0 0, .live ⟨(.bx Y_impl_Master), s3, (.own (.pair (.ref 5000006) .lit))⟩ 0 0, .live ⟨(.bx Y_impl_Master), s4, (.own (.pair (.ref 5000007) .lit))⟩ 0 0, .live ⟨(.sl Y_impl_Route), s5, (.own .lit)⟩ 0 0, .live ⟨(.sl Y_impl_Route), s6, (.own .lit)⟩ 0 0, .live ⟨(.sl Y_impl_Route), s7, (.own .lit)⟩ 0 0]⟩ (.pair (.tc Y_impl_Master (.tc .bool .unit)) .unit) (.pair (.pair (.pair (.own .lit) .lit) .lit) .lit))
noncomputable def spec_ApplyDecision_28 (x9 : Bool) (s0 : impl_Master) (s1 : impl_Master) (s2 : impl_Master) (s3 : (List impl_Route)) (s4 : (List impl_Route)) (s5 : (List impl_Route)) : Option ((impl_Master × (Bool × Unit)) × Unit) := lim (.head 8 (cont 8 28) ⟨[(4, ⟨(.bx Y_impl_Master), Ty.dflt (.bx Y_impl_Master), (.ref 5000000)⟩), (6, ⟨(.bx Y_impl_Master), Ty.dflt (.bx Y_impl_Master), (.ref 5000001)⟩), (7, ⟨(.bx Y_impl_Master), Ty.dflt (.bx Y_impl_Master), (.ref 5000002)⟩), (9, ⟨.bool, x9, .lit⟩)], [.live ⟨(.bx Y_impl_Master), s0, (.own (.pair (.ref 5000003) .lit))⟩ 0 0, .live ⟨(.bx Y_impl_Master), s1, (.own (.pair (.ref 5000004) .lit))⟩ 0 0, .live ⟨(.bx Y_impl_Master), s2, (.own (.pair (.ref 5000005) .lit))⟩ 0 0, .live ⟨(.sl Y_impl_Route), s3, (.own .lit)⟩ 0 0, .live ⟨(.sl Y_impl_Route), s4, (.own .lit)⟩ 0 0, .live ⟨(.sl Y_impl_Route), s5, (.own .lit)⟩ 0 0]⟩ (.pair (.tc Y_impl_Master (.tc .bool .unit)) .unit) (.pair (.pair (.pair (.own .lit) .lit) .lit) .lit))
noncomputable def spec_ApplyDecision_17 (x9 : Bool) (s0 : impl_Master) (s1 : impl_Decision) (s2 : impl_Master) (s3 : impl_Master) (s4 : impl_Master) (s5 : impl_Plan) (s6 : (List impl_Route)) (s7 : (List impl_Route)) (s8 : (List impl_Route)) : Option ((impl_Master × (Bool × Unit)) × Unit) := lim (.head 8 (cont 8 17) ⟨[(2, ⟨(.bx Y_impl_Master), Ty.dflt (.bx Y_impl_Master), (.ref 5000000)⟩), (3, ⟨(.bx Y_impl_Decision), Ty.dflt (.bx Y_impl_Decision), (.ref 5000001)⟩), (4, ⟨(.bx Y_impl_Master), Ty.dflt (.bx Y_impl_Master), (.ref 5000002)⟩), (6, ⟨(.bx Y_impl_Master), Ty.dflt (.bx Y_impl_Master), (.ref 5000003)⟩), (7, ⟨(.bx Y_impl_Master), Ty.dflt (.bx Y_impl_Master), (.ref 5000004)⟩), (8, ⟨(.bx Y_impl_Plan), Ty.dflt (.bx Y_impl_Plan), (.ref 5000005)⟩), (9, ⟨.bool, x9, .lit⟩)], [.live ⟨(.bx Y_impl_Master), s0, (.own (.pair (.ro [(10000000, 0)]) .lit))⟩ 0 0, .live ⟨(.bx Y_impl_Decision), s1, (.own .lit)⟩ 0 0, .live ⟨(.bx Y_impl_Master), s2, (.own (.pair (.ref 5000006) .lit))⟩ 0 0, .live ⟨(.bx Y_impl_Master), s3, (.own (.pair (.ref 5000007) .lit))⟩ 0 0, .live ⟨(.bx Y_impl_Master), s4, (.own (.pair (.ref 5000008) .lit))⟩ 0 0, .live ⟨(.bx Y_impl_Plan), s5, (.own .lit)⟩ 0 0, .live ⟨(.sl Y_impl_Route), s6, (.own .lit)⟩ 0 0, .live ⟨(.sl Y_impl_Route), s7, (.own .lit)⟩ 0 0, .live ⟨(.sl Y_impl_Route), s8, (.own .lit)⟩ 0 0]⟩ (.pair (.tc Y_impl_Master (.tc .bool .unit)) .unit) (.pair (.pair (.pair (.own .lit) .lit) .lit) .lit))
noncomputable def spec_ApplyDecision_11 (x9 : Bool) (s0 : impl_Master) (s1 : impl_Master) (s2 : impl_Master) (s3 : impl_Master) (s4 : (List impl_Route)) (s5 : (List impl_Route)) (s6 : (List impl_Route)) : Option ((impl_Master × (Bool × Unit)) × Unit) := lim (.head 8 (cont 8 11) ⟨[(2, ⟨(.bx Y_impl_Master), Ty.dflt (.bx Y_impl_Master), (.ref 5000000)⟩), (4, ⟨(.bx Y_impl_Master), Ty.dflt (.bx Y_impl_Master), (.ref 5000001)⟩), (6, ⟨(.bx Y_impl_Master), Ty.dflt (.bx Y_impl_Master), (.ref 5000002)⟩), (7, ⟨(.bx Y_impl_Master), Ty.dflt (.bx Y_impl_Master), (.ref 5000003)⟩), (9, ⟨.bool, x9, .lit⟩)], [.live ⟨(.bx Y_impl_Master), s0, (.own (.pair (.ro [(10000000, 0)]) .lit))⟩ 0 0, .live ⟨(.bx Y_impl_Master), s1, (.own (.pair (.ref 5000004) .lit))⟩ 0 0, .live ⟨(.bx Y_impl_Master), s2, (.own (.pair (.ref 5000005) .lit))⟩ 0 0, .live ⟨(.bx Y_impl_Master), s3, (.own (.pair (.ref 5000006) .lit))⟩ 0 0, .live ⟨(.sl Y_impl_Route), s4, (.own .lit)⟩ 0 0, .live ⟨(.sl Y_impl_Route), s5, (.own .lit)⟩ 0 0, .live ⟨(.sl Y_impl_Route), s6, (.own .lit)⟩ 0 0]⟩ (.pair (.tc Y_impl_Master (.tc .bool .unit)) .unit) (.pair (.pair (.pair (.own .lit) .lit) .lit) .lit))
noncomputable def spec_ApplyDecision_23 (x9 : Bool) (s0 : impl_Decision) (s1 : impl_Master) (s2 : impl_Master) (s3 : impl_Master) (s4 : impl_Plan) (s5 : (List impl_Route)) (s6 : (List impl_Route)) (s7 : (List impl_Route)) : Option ((impl_Master × (Bool × Unit)) × Unit) := lim (.head 8 (cont 8 23) ⟨[(3, ⟨(.bx Y_impl_Decision), Ty.dflt (.bx Y_impl_Decision), (.ref 5000000)⟩), (4, ⟨(.bx Y_impl_Master), Ty.dflt (.bx Y_impl_Master), (.ref 5000001)⟩), (6, ⟨(.bx Y_impl_Master), Ty.dflt (.bx Y_impl_Master), (.ref 5000002)⟩), (7, ⟨(.bx Y_impl_Master), Ty.dflt (.bx Y_impl_Master), (.ref 5000003)⟩), (8, ⟨(.bx Y_impl_Plan), Ty.dflt (.bx Y_impl_Plan), (.ref 5000004)⟩), (9, ⟨.bool, x9, .lit⟩)], [.live ⟨(.bx Y_impl_Decision), s0, (.own .lit)⟩ 0 0, .live ⟨(.bx Y_impl_Master), s1, (.own (.pair (.ref 5000005) .lit))⟩ 0 0, .live ⟨(.bx Y_impl_Master), s2, (.own (.pair (.ref 5000006) .lit))⟩ 0 0, .live ⟨(.bx Y_impl_Master), s3, (.own (.pair (.ref 5000007) .lit))⟩ 0 0, .live ⟨(.bx Y_impl_Plan), s4, (.own .lit)⟩ 0 0, .live ⟨(.sl Y_impl_Route), s5, (.own .lit)⟩ 0 0, .live ⟨(.sl Y_impl_Route), s6, (.own .lit)⟩ 0 0, .live ⟨(.sl Y_impl_Route), s7, (.own .lit)⟩ 0 0]⟩ (.pair (.tc Y_impl_Master (.tc .bool .unit)) .unit) (.pair (.pair (.pair (.own .lit) .lit) .lit) .lit))
noncomputable def spec_ApplyDecision_26 (x9 : Bool) (s0 : impl_Decision) (s1 : impl_Master) (s2 : impl_Master) (s3 : impl_Master) (s4 : impl_Plan) (s5 : (List impl_Route)) (s6 : (List impl_Route)) (s7 : (List impl_Route)) : Option ((impl_Master × (Bool × Unit)) × Unit) := lim (.head 8 (cont 8 26) ⟨[(3, ⟨(.bx Y_impl_Decision), Ty.dflt (.bx Y_impl_Decision), (.ref 5000000)⟩), (4, ⟨(.bx Y_impl_Master), Ty.dflt (.bx Y_impl_Master), (.ref 5000001)⟩), (6, ⟨(.bx Y_impl_Master), Ty.dflt (.bx Y_impl_Master), (.ref 5000002)⟩), (7, ⟨(.bx Y_impl_Master), Ty.dflt (.bx Y_impl_Master), (.ref 5000003)⟩), (8, ⟨(.bx Y_impl_Plan), Ty.dflt (.bx Y_impl_Plan), (.ref 5000004)⟩), (9, ⟨.bool, x9, .lit⟩)], [.live ⟨(.bx Y_impl_Decision), s0, (.own .lit)⟩ 0 0, .live ⟨(.bx Y_impl_Master), s1, (.own (.pair (.ref 5000005) .lit))⟩ 0 0, .live ⟨(.bx Y_impl_Master), s2, (.own (.pair (.ref 5000006) .lit))⟩ 0 0, .live ⟨(.bx Y_impl_Master), s3, (.own (.pair (.ref 5000007) .lit))⟩ 0 0, .live ⟨(.bx Y_impl_Plan), s4, (.own .lit)⟩ 0 0, .live ⟨(.sl Y_impl_Route), s5, (.own .lit)⟩ 0 0, .live ⟨(.sl Y_impl_Route), s6, (.own .lit)⟩ 0 0, .live ⟨(.sl Y_impl_Route), s7, (.own .lit)⟩ 0 0]⟩ (.pair (.tc Y_impl_Master (.tc .bool .unit)) .unit) (.pair (.pair (.pair (.own .lit) .lit) .lit) .lit))
/-- laws.szDecision -/
noncomputable def laws_szDecision (a0 : laws_Decision) (a1 : Int) : Option (Int × Unit) := lim (.call 7 [⟨Y_laws_Decision, a0, .lit⟩, ⟨(.int .i64), a1, .lit⟩] (.pair (.int .i64) .unit) .lit)
/-- laws.szMaster -/
noncomputable def laws_szMaster (a0 : laws_Master) (a1 : Int) : Option (Int × Unit) := lim (.call 6 [⟨Y_laws_Master, a0, (.pair (.ro [(10000000, 0)]) .lit)⟩, ⟨(.int .i64), a1, .lit⟩] (.pair (.int .i64) .unit) .lit)
/-- laws.heldRouteS -/
noncomputable def laws_heldRouteS (a0 : (List impl_Route)) (a1 : Int) : Option (Int × Unit) := lim (.call 49 [⟨(.sl Y_impl_Route), a0, (.ro [(10000000, 0)])⟩, ⟨(.int .i64), a1, .lit⟩] (.pair (.int .i64) .unit) .lit)
noncomputable def laws_heldRouteS_2 (x0 : (List impl_Route)) (x1 : Int) (x5 : Int) : Option (Int × Unit) := lim (.head 49 (cont 49 2) ⟨[(0, ⟨(.sl Y_impl_Route), x0, (.ro [(10000000, 0)])⟩), (1, ⟨(.int .i64), x1, .lit⟩), (5, ⟨(.int .i64), x5, .lit⟩)], []⟩ (.pair (.int .i64) .unit) .lit)
/-- laws.eqPlan -/
noncomputable def laws_eqPlan (a0 : impl_Plan) (a1 : impl_Plan) : Option (Bool × Unit) := lim (.call 47 [⟨Y_impl_Plan, a0, .lit⟩, ⟨Y_impl_Plan, a1, .lit⟩] (.pair .bool .unit) .lit)
/-- laws.eqRouteS -/
noncomputable def laws_eqRouteS (a0 : (List impl_Route)) (a1 : (List impl_Route)) : Option (Bool × Unit) := lim (.call 46 [⟨(.sl Y_impl_Route), a0, (.ro [(10000000, 0)])⟩, ⟨(.sl Y_impl_Route), a1, (.ro [(10000001, 0)])⟩] (.pair .bool .unit) .lit)
noncomputable def laws_eqRouteS_4 (x0 : (List impl_Route)) (x1 : (List impl_Route)) (x5 : Int) : Option (Bool × Unit) := lim (.head 46 (cont 46 4) ⟨[(0, ⟨(.sl Y_impl_Route), x0, (.ro [(10000000, 0)])⟩), (1, ⟨(.sl Y_impl_Route), x1, (.ro [(10000001, 0)])⟩), (5, ⟨(.int .i64), x5, .lit⟩)], []⟩ (.pair .bool .unit) .lit)
/-- impl.beginsWork -/
noncomputable def impl_beginsWork (a0 : impl_Master) (a1 : impl_Plan) : Option (Bool × (impl_Master × Unit)) := lim (.call 43 [⟨(.bx Y_impl_Master), a0, (.own (.pair (.own .lit) .lit))⟩, ⟨Y_impl_Plan, a1, .lit⟩] (.pair .bool (.tc (.bx Y_impl_Master) .unit)) (.pair .lit (.pair (.own (.pair (.own .lit) .lit)) .lit)))
/-- impl.splitsRoutes -/
noncomputable def impl_splitsRoutes (a0 : impl_Master) : Option (Bool × (impl_Master × Unit)) := lim (.call 44 [⟨(.bx Y_impl_Master), a0, (.own (.pair (.own .lit) .lit))⟩] (.pair .bool (.tc (.bx Y_impl_Master) .unit)) (.pair .lit (.pair (.own (.pair (.own .lit) .lit)) .lit)))
/-- impl.mergesRoutes -/
noncomputable def impl_mergesRoutes (a0 : impl_Master) : Option (Bool × (impl_Master × Unit)) := lim (.call 45 [⟨(.bx Y_impl_Master), a0, (.own (.pair (.own .lit) .lit))⟩] (.pair .bool (.tc (.bx Y_impl_Master) .unit)) (.pair .lit (.pair (.own (.pair (.own .lit) .lit)) .lit)))
/-- impl.copyMaster -/
noncomputable def impl_copyMaster (a0 : impl_Master) : Option (impl_Master × Unit) := lim (.call 42 [⟨Y_impl_Master, a0, (.pair (.ro [(10000000, 0)]) .lit)⟩] (.pair Y_impl_Master .unit) (.pair (.pair (.own .lit) .lit) .lit))
/-- impl.MasterValid -/
noncomputable def impl_MasterValid (a0 : impl_Master) : Option (Bool × Unit) := lim (.call 41 [⟨Y_impl_Master, a0, (.pair (.ro [(10000000, 0)]) .lit)⟩] (.pair .bool .unit) .lit)
noncomputable def impl_MasterValid_4 (x30 : (List impl_Route)) (x31 : Int) (x32 : Int) (s0 : impl_Master) : Option (Bool × Unit) := lim (.head 41 (cont 41 4) ⟨[(1, ⟨(.bx Y_impl_Master), Ty.dflt (.bx Y_impl_Master), (.ref 5000000)⟩), (30, ⟨(.sl Y_impl_Route), x30, (.ro [(10000000, 0)])⟩), (31, ⟨(.int .i64), x31, .lit⟩), (32, ⟨(.int .i64), x32, .lit⟩)], [.live ⟨(.bx Y_impl_Master), s0, (.own (.pair (.ro [(10000000, 0)]) .lit))⟩ 0 0]⟩ (.pair .bool .unit) .lit)
/-- laws.toPlan -/
noncomputable def laws_toPlan (a0 : laws_Plan) : Option (impl_Plan × Unit) := lim (.call 40 [⟨Y_laws_Plan, a0, .lit⟩] (.pair Y_impl_Plan .unit) .lit)
/-- laws.toRouteS -/
noncomputable def laws_toRouteS (a0 : (List laws_Route)) : Option ((List impl_Route) × Unit) := lim (.call 39 [⟨(.sl Y_laws_Route), a0, (.ro [(10000000, 0)])⟩] (.pair (.sl Y_impl_Route) .unit) (.pair (.own .lit) .lit))
noncomputable def laws_toRouteS_3 (x0 : (List laws_Route)) (x4 : Int) (s0 : (List impl_Route)) : Option ((List impl_Route) × Unit) := lim (.head 39 (cont 39 3) ⟨[(0, ⟨(.sl Y_laws_Route), x0, (.ro [(10000000, 0)])⟩), (3, ⟨(.sl Y_impl_Route), Ty.dflt (.sl Y_impl_Route), (.ref 5000000)⟩), (4, ⟨(.int .i64), x4, .lit⟩)], [.live ⟨(.sl Y_impl_Route), s0, (.own .lit)⟩ 0 0]⟩ (.pair (.sl Y_impl_Route) .unit) (.pair (.own .lit) .lit))
/-- laws.markRouteS -/
noncomputable def laws_markRouteS (a0 : (List impl_Route)) (a1 : Int) : Option (Int × ((List impl_Route) × Unit)) := lim (.call 48 [⟨(.sl Y_impl_Route), a0, (.own .lit)⟩, ⟨(.int .i64), a1, .lit⟩] (.pair (.int .i64) (.tc (.sl Y_impl_Route) .unit)) (.pair .lit (.pair (.own .lit) .lit)))
noncomputable def laws_markRouteS_2 (x1 : Int) (x5 : Int) (s0 : (List impl_Route)) : Option (Int × ((List impl_Route) × Unit)) := lim (.head 48 (cont 48 2) ⟨[(0, ⟨(.sl Y_impl_Route), Ty.dflt (.sl Y_impl_Route), (.ref 5000000)⟩), (1, ⟨(.int .i64), x1, .lit⟩), (5, ⟨(.int .i64), x5, .lit⟩)], [.live ⟨(.sl Y_impl_Route), s0, (.own .lit)⟩ 0 0]⟩ (.pair (.int .i64) (.tc (.sl Y_impl_Route) .unit)) (.pair .lit (.pair (.own .lit) .lit)))
/-- spec.l27Work -/
noncomputable def spec_l27Work (a0 : impl_Plan) (a1 : Int) : Option (Bool × Unit) := lim (.call 35 [⟨Y_impl_Plan, a0, .lit⟩, ⟨(.int .i64), a1, .lit⟩] (.pair .bool .unit) .lit)
/-- spec.PlanValid -/
noncomputable def spec_PlanValid (a0 : impl_Plan) : Option (Bool × Unit) := lim (.call 34 [⟨Y_impl_Plan, a0, .lit⟩] (.pair .bool .unit) .lit)
/-- spec.SplitRoute -/
noncomputable def spec_SplitRoute (a0 : (List impl_Route)) (a1 : Int) (a2 : ByteArray) (a3 : Int) (a4 : Int) : Option (((List impl_Route) × (Bool × Unit)) × Unit) := lim (.call 36 [⟨(.sl Y_impl_Route), a0, (.ro [(10000000, 0)])⟩, ⟨(.int .i64), a1, .lit⟩, ⟨.str, a2, .lit⟩, ⟨(.int .i64), a3, .lit⟩, ⟨(.int .i64), a4, .lit⟩] (.pair (.tc (.sl Y_impl_Route) (.tc .bool .unit)) .unit) (.pair (.pair (.own .lit) .lit) .lit))
/-- spec.MasterValid -/
noncomputable def spec_MasterValid (a0 : impl_Master) : Option (Bool × Unit) := lim (.call 33 [⟨Y_impl_Master, a0, (.pair (.ro [(10000000, 0)]) .lit)⟩] (.pair .bool .unit) .lit)
noncomputable def spec_MasterValid_4 (x3 : Int) (s0 : impl_Master) : Option (Bool × Unit) := lim (.head 33 (cont 33 4) ⟨[(1, ⟨(.bx Y_impl_Master), Ty.dflt (.bx Y_impl_Master), (.ref 5000000)⟩), (3, ⟨(.int .i64), x3, .lit⟩)], [.live ⟨(.bx Y_impl_Master), s0, (.own (.pair (.ro [(10000000, 0)]) .lit))⟩ 0 0]⟩ (.pair .bool .unit) .lit)
/-- spec.MergeRoutes -/
noncomputable def spec_MergeRoutes (a0 : (List impl_Route)) (a1 : Int) (a2 : Int) : Option (((List impl_Route) × (Bool × Unit)) × Unit) := lim (.call 38 [⟨(.sl Y_impl_Route), a0, (.ro [(10000000, 0)])⟩, ⟨(.int .i64), a1, .lit⟩, ⟨(.int .i64), a2, .lit⟩] (.pair (.tc (.sl Y_impl_Route) (.tc .bool .unit)) .unit) (.pair (.pair (.own .lit) .lit) .lit))
/-- spec.l23Index -/
noncomputable def spec_l23Index (a0 : (List impl_Route)) (a1 : Int) : Option (Int × Unit) := lim (.call 37 [⟨(.sl Y_impl_Route), a0, (.ro [(10000000, 0)])⟩, ⟨(.int .i64), a1, .lit⟩] (.pair (.int .i64) .unit) .lit)
noncomputable def spec_l23Index_2 (x0 : (List impl_Route)) (x1 : Int) (x5 : Int) : Option (Int × Unit) := lim (.head 37 (cont 37 2) ⟨[(0, ⟨(.sl Y_impl_Route), x0, (.ro [(10000000, 0)])⟩), (1, ⟨(.int .i64), x1, .lit⟩), (5, ⟨(.int .i64), x5, .lit⟩)], []⟩ (.pair (.int .i64) .unit) .lit)
/-- laws.szPlan -/
noncomputable def laws_szPlan (a0 : laws_Plan) (a1 : Int) : Option (Int × Unit) := lim (.call 32 [⟨Y_laws_Plan, a0, .lit⟩, ⟨(.int .i64), a1, .lit⟩] (.pair (.int .i64) .unit) .lit)
/-- laws.szRouteS -/
noncomputable def laws_szRouteS (a0 : (List laws_Route)) (a1 : Int) : Option (Int × Unit) := lim (.call 31 [⟨(.sl Y_laws_Route), a0, (.ro [(10000000, 0)])⟩, ⟨(.int .i64), a1, .lit⟩] (.pair (.int .i64) .unit) .lit)
noncomputable def laws_szRouteS_5 (x0 : (List laws_Route)) (x1 : Int) (x5 : Int) : Option (Int × Unit) := lim (.head 31 (cont 31 5) ⟨[(0, ⟨(.sl Y_laws_Route), x0, (.ro [(10000000, 0)])⟩), (1, ⟨(.int .i64), x1, .lit⟩), (5, ⟨(.int .i64), x5, .lit⟩)], []⟩ (.pair (.int .i64) .unit) .lit)
/-- laws.markText -/
noncomputable def laws_markText (a0 : Int) : Option (ByteArray × Unit) := lim (.call 53 [⟨(.int .i64), a0, .lit⟩] (.pair .str .unit) .lit)
noncomputable def laws_markText_4 (x0 : Int) (x3 : ByteArray) : Option (ByteArray × Unit) := lim (.head 53 (cont 53 4) ⟨[(0, ⟨(.int .i64), x0, .lit⟩), (3, ⟨.str, x3, .lit⟩)], []⟩ (.pair .str .unit) .lit)
/-- laws.eqRoute -/
noncomputable def laws_eqRoute (a0 : impl_Route) (a1 : impl_Route) : Option (Bool × Unit) := lim (.call 88 [⟨Y_impl_Route, a0, .lit⟩, ⟨Y_impl_Route, a1, .lit⟩] (.pair .bool .unit) .lit)
/-- impl.PlanValid -/
noncomputable def impl_PlanValid (a0 : impl_Plan) : Option (Bool × Unit) := lim (.call 83 [⟨Y_impl_Plan, a0, .lit⟩] (.pair .bool .unit) .lit)
/-- impl.SplitRoute -/
noncomputable def impl_SplitRoute (a0 : (List impl_Route)) (a1 : Int) (a2 : ByteArray) (a3 : Int) (a4 : Int) : Option (((List impl_Route) × (Bool × Unit)) × Unit) := lim (.call 85 [⟨(.sl Y_impl_Route), a0, (.ro [(10000000, 0)])⟩, ⟨(.int .i64), a1, .lit⟩, ⟨.str, a2, .lit⟩, ⟨(.int .i64), a3, .lit⟩, ⟨(.int .i64), a4, .lit⟩] (.pair (.tc (.sl Y_impl_Route) (.tc .bool .unit)) .unit) (.pair (.pair (.own .lit) .lit) .lit))
/-- impl.MergeRoutes -/
noncomputable def impl_MergeRoutes (a0 : (List impl_Route)) (a1 : Int) (a2 : Int) : Option (((List impl_Route) × (Bool × Unit)) × Unit) := lim (.call 87 [⟨(.sl Y_impl_Route), a0, (.ro [(10000000, 0)])⟩, ⟨(.int .i64), a1, .lit⟩, ⟨(.int .i64), a2, .lit⟩] (.pair (.tc (.sl Y_impl_Route) (.tc .bool .unit)) .unit) (.pair (.pair (.own .lit) .lit) .lit))
/-- impl.routePlace -/
noncomputable def impl_routePlace (a0 : (List impl_Route)) (a1 : Int) : Option (Int × Unit) := lim (.call 86 [⟨(.sl Y_impl_Route), a0, (.ro [(10000000, 0)])⟩, ⟨(.int .i64), a1, .lit⟩] (.pair (.int .i64) .unit) .lit)
noncomputable def impl_routePlace_2 (x1 : Int) (x7 : (List impl_Route)) (x8 : Int) (x9 : Int) : Option (Int × Unit) := lim (.head 86 (cont 86 2) ⟨[(1, ⟨(.int .i64), x1, .lit⟩), (7, ⟨(.sl Y_impl_Route), x7, (.ro [(10000000, 0)])⟩), (8, ⟨(.int .i64), x8, .lit⟩), (9, ⟨(.int .i64), x9, .lit⟩)], []⟩ (.pair (.int .i64) .unit) .lit)
/-- impl.Route] -/
noncomputable def impl_copyOf_Route (a0 : (List impl_Route)) : Option ((List impl_Route) × Unit) := lim (.call 84 [⟨(.sl Y_impl_Route), a0, (.ro [(10000000, 0)])⟩] (.pair (.sl Y_impl_Route) .unit) (.pair (.own .lit) .lit))
/-- impl.RoutesValid -/
noncomputable def impl_RoutesValid (a0 : (List impl_Route)) : Option (Bool × Unit) := lim (.call 82 [⟨(.sl Y_impl_Route), a0, (.ro [(10000000, 0)])⟩] (.pair .bool .unit) .lit)
/-- laws.toRoute -/
noncomputable def laws_toRoute (a0 : laws_Route) : Option (impl_Route × Unit) := lim (.call 81 [⟨Y_laws_Route, a0, .lit⟩] (.pair Y_impl_Route .unit) .lit)
/-- spec.KeyValid -/
noncomputable def spec_KeyValid (a0 : ByteArray) : Option (Bool × Unit) := lim (.call 78 [⟨.str, a0, .lit⟩] (.pair .bool .unit) .lit)
noncomputable def spec_KeyValid_4 (x0 : ByteArray) (x3 : Int) : Option (Bool × Unit) := lim (.head 78 (cont 78 4) ⟨[(0, ⟨.str, x0, .lit⟩), (3, ⟨(.int .i64), x3, .lit⟩)], []⟩ (.pair .bool .unit) .lit)
/-- spec.l1In -/
noncomputable def spec_l1In (a0 : Int) (a1 : Int) (a2 : Int) : Option (Bool × Unit) := lim (.call 77 [⟨(.int .i64), a0, .lit⟩, ⟨(.int .i64), a1, .lit⟩, ⟨(.int .i64), a2, .lit⟩] (.pair .bool .unit) .lit)
/-- spec.RoutesValid -/
noncomputable def spec_RoutesValid (a0 : (List impl_Route)) : Option (Bool × Unit) := lim (.call 76 [⟨(.sl Y_impl_Route), a0, (.ro [(10000000, 0)])⟩] (.pair .bool .unit) .lit)
noncomputable def spec_RoutesValid_3 (x0 : (List impl_Route)) (x4 : Int) (s0 : (List impl_Interval)) : Option (Bool × Unit) := lim (.head 76 (cont 76 3) ⟨[(0, ⟨(.sl Y_impl_Route), x0, (.ro [(10000000, 0)])⟩), (3, ⟨(.sl Y_impl_Interval), Ty.dflt (.sl Y_impl_Interval), (.ref 5000000)⟩), (4, ⟨(.int .i64), x4, .lit⟩)], [.live ⟨(.sl Y_impl_Interval), s0, (.own .lit)⟩ 0 0]⟩ (.pair .bool .unit) .lit)
noncomputable def spec_RoutesValid_8 (x0 : (List impl_Route)) (x4 : Int) (x5 : Int) (s0 : (List impl_Interval)) : Option (Bool × Unit) := lim (.head 76 (cont 76 8) ⟨[(0, ⟨(.sl Y_impl_Route), x0, (.ro [(10000000, 0)])⟩), (3, ⟨(.sl Y_impl_Interval), Ty.dflt (.sl Y_impl_Interval), (.ref 5000000)⟩), (4, ⟨(.int .i64), x4, .lit⟩), (5, ⟨(.int .i64), x5, .lit⟩)], [.live ⟨(.sl Y_impl_Interval), s0, (.own .lit)⟩ 0 0]⟩ (.pair .bool .unit) .lit)
/-- spec.IntervalCut -/
noncomputable def spec_IntervalCut (a0 : impl_Interval) (a1 : ByteArray) : Option ((impl_Interval × (impl_Interval × (Bool × Unit))) × Unit) := lim (.call 79 [⟨Y_impl_Interval, a0, .lit⟩, ⟨.str, a1, .lit⟩] (.pair (.tc Y_impl_Interval (.tc Y_impl_Interval (.tc .bool .unit))) .unit) .lit)
/-- spec.IntervalJoin -/
noncomputable def spec_IntervalJoin (a0 : impl_Interval) (a1 : impl_Interval) : Option ((impl_Interval × (Bool × Unit)) × Unit) := lim (.call 80 [⟨Y_impl_Interval, a0, .lit⟩, ⟨Y_impl_Interval, a1, .lit⟩] (.pair (.tc Y_impl_Interval (.tc .bool .unit)) .unit) .lit)
/-- laws.szRoute -/
noncomputable def laws_szRoute (a0 : laws_Route) (a1 : Int) : Option (Int × Unit) := lim (.call 75 [⟨Y_laws_Route, a0, .lit⟩, ⟨(.int .i64), a1, .lit⟩] (.pair (.int .i64) .unit) .lit)
/-- laws.eqInterval -/
noncomputable def laws_eqInterval (a0 : impl_Interval) (a1 : impl_Interval) : Option (Bool × Unit) := lim (.call 123 [⟨Y_impl_Interval, a0, .lit⟩, ⟨Y_impl_Interval, a1, .lit⟩] (.pair .bool .unit) .lit)
/-- impl.KeyValid -/
noncomputable def impl_KeyValid (a0 : ByteArray) : Option (Bool × Unit) := lim (.call 73 [⟨.str, a0, .lit⟩] (.pair .bool .unit) .lit)
/-- impl.shardNumber -/
noncomputable def impl_shardNumber (a0 : Int) : Option (Bool × Unit) := lim (.call 119 [⟨(.int .i64), a0, .lit⟩] (.pair .bool .unit) .lit)
/-- impl.nodeValid -/
noncomputable def impl_nodeValid (a0 : Int) : Option (Bool × Unit) := lim (.call 120 [⟨(.int .i64), a0, .lit⟩] (.pair .bool .unit) .lit)
/-- impl.Route] -/
noncomputable def impl_replaced_Route (a0 : (List impl_Route)) (a1 : Int) (a2 : Int) (a3 : (List impl_Route)) : Option ((List impl_Route) × Unit) := lim (.call 121 [⟨(.sl Y_impl_Route), a0, (.ro [(10000000, 0)])⟩, ⟨(.int .i64), a1, .lit⟩, ⟨(.int .i64), a2, .lit⟩, ⟨(.sl Y_impl_Route), a3, (.ro [(10000003, 0)])⟩] (.pair (.sl Y_impl_Route) .unit) (.pair (.own .lit) .lit))
/-- impl.IntervalCut -/
noncomputable def impl_IntervalCut (a0 : impl_Interval) (a1 : ByteArray) : Option ((impl_Interval × (impl_Interval × (Bool × Unit))) × Unit) := lim (.call 68 [⟨Y_impl_Interval, a0, .lit⟩, ⟨.str, a1, .lit⟩] (.pair (.tc Y_impl_Interval (.tc Y_impl_Interval (.tc .bool .unit))) .unit) .lit)
/-- impl.IntervalJoin -/
noncomputable def impl_IntervalJoin (a0 : impl_Interval) (a1 : impl_Interval) : Option ((impl_Interval × (Bool × Unit)) × Unit) := lim (.call 122 [⟨Y_impl_Interval, a0, .lit⟩, ⟨Y_impl_Interval, a1, .lit⟩] (.pair (.tc Y_impl_Interval (.tc .bool .unit)) .unit) .lit)
/-- impl.numbersDiffer -/
noncomputable def impl_numbersDiffer (a0 : (List impl_Route)) : Option (Bool × Unit) := lim (.call 118 [⟨(.sl Y_impl_Route), a0, (.ro [(10000000, 0)])⟩] (.pair .bool .unit) .lit)
noncomputable def impl_numbersDiffer_2 (x0 : (List impl_Route)) (x5 : (List impl_Route)) (x6 : Int) (x7 : Int) : Option (Bool × Unit) := lim (.head 118 (cont 118 2) ⟨[(0, ⟨(.sl Y_impl_Route), x0, (.ro [(10000000, 0)])⟩), (5, ⟨(.sl Y_impl_Route), x5, (.ro [(10000000, 0)])⟩), (6, ⟨(.int .i64), x6, .lit⟩), (7, ⟨(.int .i64), x7, .lit⟩)], []⟩ (.pair .bool .unit) .lit)
/-- impl.PartitionValid -/
noncomputable def impl_PartitionValid (a0 : (List impl_Interval)) : Option (Bool × Unit) := lim (.call 116 [⟨(.sl Y_impl_Interval), a0, (.ro [(10000000, 0)])⟩] (.pair .bool .unit) .lit)
noncomputable def impl_PartitionValid_5 (x0 : (List impl_Interval)) (x32 : (List impl_Interval)) (x33 : Int) (x34 : Int) : Option (Bool × Unit) := lim (.head 116 (cont 116 5) ⟨[(0, ⟨(.sl Y_impl_Interval), x0, (.ro [(10000000, 0)])⟩), (32, ⟨(.sl Y_impl_Interval), x32, (.ro [(10000000, 0)])⟩), (33, ⟨(.int .i64), x33, .lit⟩), (34, ⟨(.int .i64), x34, .lit⟩)], []⟩ (.pair .bool .unit) .lit)
/-- impl.spansOf -/
noncomputable def impl_spansOf (a0 : (List impl_Route)) : Option ((List impl_Interval) × Unit) := lim (.call 117 [⟨(.sl Y_impl_Route), a0, (.ro [(10000000, 0)])⟩] (.pair (.sl Y_impl_Interval) .unit) (.pair (.own .lit) .lit))
noncomputable def impl_spansOf_3 (x6 : (List impl_Route)) (x7 : Int) (x8 : Int) (s0 : (List impl_Interval)) : Option ((List impl_Interval) × Unit) := lim (.head 117 (cont 117 3) ⟨[(3, ⟨(.sl Y_impl_Interval), Ty.dflt (.sl Y_impl_Interval), (.ref 5000000)⟩), (6, ⟨(.sl Y_impl_Route), x6, (.ro [(10000000, 0)])⟩), (7, ⟨(.int .i64), x7, .lit⟩), (8, ⟨(.int .i64), x8, .lit⟩)], [.live ⟨(.sl Y_impl_Interval), s0, (.own .lit)⟩ 0 0]⟩ (.pair (.sl Y_impl_Interval) .unit) (.pair (.own .lit) .lit))
/-- laws.toInterval -/
noncomputable def laws_toInterval (a0 : laws_Interval) : Option (impl_Interval × Unit) := lim (.call 115 [⟨Y_laws_Interval, a0, .lit⟩] (.pair Y_impl_Interval .unit) .lit)
/-- spec.PartitionValid -/
noncomputable def spec_PartitionValid (a0 : (List impl_Interval)) : Option (Bool × Unit) := lim (.call 114 [⟨(.sl Y_impl_Interval), a0, (.ro [(10000000, 0)])⟩] (.pair .bool .unit) .lit)
noncomputable def spec_PartitionValid_4 (x0 : (List impl_Interval)) (x3 : Int) : Option (Bool × Unit) := lim (.head 114 (cont 114 4) ⟨[(0, ⟨(.sl Y_impl_Interval), x0, (.ro [(10000000, 0)])⟩), (3, ⟨(.int .i64), x3, .lit⟩)], []⟩ (.pair .bool .unit) .lit)
/-- spec.IntervalValid -/
noncomputable def spec_IntervalValid (a0 : impl_Interval) : Option (Bool × Unit) := lim (.call 99 [⟨Y_impl_Interval, a0, .lit⟩] (.pair .bool .unit) .lit)
/-- laws.szInterval -/
noncomputable def laws_szInterval (a0 : laws_Interval) (a1 : Int) : Option (Int × Unit) := lim (.call 113 [⟨Y_laws_Interval, a0, .lit⟩, ⟨(.int .i64), a1, .lit⟩] (.pair (.int .i64) .unit) .lit)
/-- impl.lettersOnly -/
noncomputable def impl_lettersOnly (a0 : ByteArray) : Option (Bool × Unit) := lim (.call 112 [⟨.str, a0, .lit⟩] (.pair .bool .unit) .lit)
/-- impl.IntervalValid -/
noncomputable def impl_IntervalValid (a0 : impl_Interval) : Option (Bool × Unit) := lim (.call 64 [⟨Y_impl_Interval, a0, .lit⟩] (.pair .bool .unit) .lit)
/-- impl.lowestKey -/
noncomputable def impl_lowestKey (a0 : impl_Interval) : Option (ByteArray × Unit) := lim (.call 108 [⟨Y_impl_Interval, a0, .lit⟩] (.pair .str .unit) .lit)
end Go.Proofs.Ytkelnaphjekenaa.Ev
