/- The functions, as limits of the evaluator's runs. No condition. -/
import Derived.Test.YtpdmjnejnplhnaaGreatTab
set_option maxRecDepth 100000
set_option linter.unusedVariables false
namespace Go.Proofs.YtpdmjnejnplhnaaGreat.Ev
open Go.Proofs.YtpdmjnejnplhnaaGreat.Eng
open Go.RowKit (wrap64)
/-- laws.FnExactValueAt -/
noncomputable def laws_FnExactValueAt (a0 : laws_Chain) (a1 : Int) (a2 : ByteArray) : Option (Bool × Unit) := lim (.call 3 [⟨Y_laws_Chain, a0, (.pair (.pair .lit (.pair (.ro [(10000000, 0)]) (.pair (.ro [(10000000, 0)]) .lit))) (.pair (.pair .lit (.pair (.ro [(10000000, 0)]) .lit)) (.pair (.ro [(10000000, 0)]) (.pair (.ro [(10000000, 0)]) (.pair (.ro [(10000000, 0)]) (.pair (.ro [(10000000, 0)]) .lit))))))⟩, ⟨(.int .i64), a1, .lit⟩, ⟨.str, a2, .lit⟩] (.pair .bool .unit) .lit)
/-- laws.FnExactLastChange -/
noncomputable def laws_FnExactLastChange (a0 : laws_Chain) (a1 : ByteArray) : Option (Bool × Unit) := lim (.call 4 [⟨Y_laws_Chain, a0, (.pair (.pair .lit (.pair (.ro [(10000000, 0)]) (.pair (.ro [(10000000, 0)]) .lit))) (.pair (.pair .lit (.pair (.ro [(10000000, 0)]) .lit)) (.pair (.ro [(10000000, 0)]) (.pair (.ro [(10000000, 0)]) (.pair (.ro [(10000000, 0)]) (.pair (.ro [(10000000, 0)]) .lit))))))⟩, ⟨.str, a1, .lit⟩] (.pair .bool .unit) .lit)
/-- laws.eqChain -/
noncomputable def laws_eqChain (a0 : impl_Chain) (a1 : impl_Chain) : Option (Bool × Unit) := lim (.call 10 [⟨Y_impl_Chain, a0, (.pair (.pair .lit (.pair (.ro [(10000000, 0)]) (.pair (.ro [(10000000, 0)]) .lit))) (.pair (.pair .lit (.pair (.ro [(10000000, 0)]) .lit)) (.pair (.ro [(10000000, 0)]) (.pair (.ro [(10000000, 0)]) (.pair (.ro [(10000000, 0)]) (.pair (.ro [(10000000, 0)]) .lit))))))⟩, ⟨Y_impl_Chain, a1, (.pair (.pair .lit (.pair (.ro [(10000001, 0)]) (.pair (.ro [(10000001, 0)]) .lit))) (.pair (.pair .lit (.pair (.ro [(10000001, 0)]) .lit)) (.pair (.ro [(10000001, 0)]) (.pair (.ro [(10000001, 0)]) (.pair (.ro [(10000001, 0)]) (.pair (.ro [(10000001, 0)]) .lit))))))⟩] (.pair .bool .unit) .lit)
/-- laws.toChain -/
noncomputable def laws_toChain (a0 : laws_Chain) : Option (impl_Chain × Unit) := lim (.call 8 [⟨Y_laws_Chain, a0, (.pair (.pair .lit (.pair (.ro [(10000000, 0)]) (.pair (.ro [(10000000, 0)]) .lit))) (.pair (.pair .lit (.pair (.ro [(10000000, 0)]) .lit)) (.pair (.ro [(10000000, 0)]) (.pair (.ro [(10000000, 0)]) (.pair (.ro [(10000000, 0)]) (.pair (.ro [(10000000, 0)]) .lit))))))⟩] (.pair Y_impl_Chain .unit) (.pair (.pair (.pair .lit (.pair (.own .lit) (.pair (.own .lit) .lit))) (.pair (.pair .lit (.pair (.own .lit) .lit)) (.pair (.own (.pair (.pair .lit (.pair (.own .lit) .lit)) (.pair .lit (.pair (.own .lit) .lit)))) (.pair (.own .lit) (.pair (.own (.pair .lit (.pair .lit (.pair .lit (.pair (.pair .lit (.pair (.own .lit) .lit)) (.pair (.own .lit) .lit)))))) (.pair (.own .lit) .lit)))))) .lit))
/-- impl.ValueAt -/
noncomputable def impl_ValueAt (a0 : impl_Chain) (a1 : Int) (a2 : ByteArray) : Option (Int × Unit) := lim (.call 9 [⟨Y_impl_Chain, a0, (.pair (.pair .lit (.pair (.ro [(10000000, 0)]) (.pair (.ro [(10000000, 0)]) .lit))) (.pair (.pair .lit (.pair (.ro [(10000000, 0)]) .lit)) (.pair (.ro [(10000000, 0)]) (.pair (.ro [(10000000, 0)]) (.pair (.ro [(10000000, 0)]) (.pair (.ro [(10000000, 0)]) .lit))))))⟩, ⟨(.int .i64), a1, .lit⟩, ⟨.str, a2, .lit⟩] (.pair (.int .i64) .unit) .lit)
/-- spec.ValueAt -/
noncomputable def spec_ValueAt (a0 : impl_Chain) (a1 : Int) (a2 : ByteArray) : Option (Int × Unit) := lim (.call 7 [⟨Y_impl_Chain, a0, (.pair (.pair .lit (.pair (.ro [(10000000, 0)]) (.pair (.ro [(10000000, 0)]) .lit))) (.pair (.pair .lit (.pair (.ro [(10000000, 0)]) .lit)) (.pair (.ro [(10000000, 0)]) (.pair (.ro [(10000000, 0)]) (.pair (.ro [(10000000, 0)]) (.pair (.ro [(10000000, 0)]) .lit))))))⟩, ⟨(.int .i64), a1, .lit⟩, ⟨.str, a2, .lit⟩] (.pair (.int .i64) .unit) .lit)
/-- laws.szChain -/
noncomputable def laws_szChain (a0 : laws_Chain) (a1 : Int) : Option (Int × Unit) := lim (.call 6 [⟨Y_laws_Chain, a0, (.pair (.pair .lit (.pair (.ro [(10000000, 0)]) (.pair (.ro [(10000000, 0)]) .lit))) (.pair (.pair .lit (.pair (.ro [(10000000, 0)]) .lit)) (.pair (.ro [(10000000, 0)]) (.pair (.ro [(10000000, 0)]) (.pair (.ro [(10000000, 0)]) (.pair (.ro [(10000000, 0)]) .lit))))))⟩, ⟨(.int .i64), a1, .lit⟩] (.pair (.int .i64) .unit) .lit)
/-- impl.LastChange -/
noncomputable def impl_LastChange (a0 : impl_Chain) (a1 : ByteArray) : Option (Int × Unit) := lim (.call 12 [⟨Y_impl_Chain, a0, (.pair (.pair .lit (.pair (.ro [(10000000, 0)]) (.pair (.ro [(10000000, 0)]) .lit))) (.pair (.pair .lit (.pair (.ro [(10000000, 0)]) .lit)) (.pair (.ro [(10000000, 0)]) (.pair (.ro [(10000000, 0)]) (.pair (.ro [(10000000, 0)]) (.pair (.ro [(10000000, 0)]) .lit))))))⟩, ⟨.str, a1, .lit⟩] (.pair (.int .i64) .unit) .lit)
noncomputable def impl_LastChange_4 (x1 : ByteArray) (x5 : Int) (s0 : impl_Chain) : Option (Int × Unit) := lim (.head 12 (cont 12 4) ⟨[(1, ⟨.str, x1, .lit⟩), (2, ⟨(.bx Y_impl_Chain), Ty.dflt (.bx Y_impl_Chain), (.ref 5000000)⟩), (5, ⟨(.int .i64), x5, .lit⟩)], [.live ⟨(.bx Y_impl_Chain), s0, (.own (.pair (.pair .lit (.pair (.ro [(10000000, 0)]) (.pair (.ro [(10000000, 0)]) .lit))) (.pair (.pair .lit (.pair (.ro [(10000000, 0)]) .lit)) (.pair (.ro [(10000000, 0)]) (.pair (.ro [(10000000, 0)]) (.pair (.ro [(10000000, 0)]) (.pair (.ro [(10000000, 0)]) .lit)))))))⟩ 0 0]⟩ (.pair (.int .i64) .unit) .lit)
/-- spec.LastChange -/
noncomputable def spec_LastChange (a0 : impl_Chain) (a1 : ByteArray) : Option (Int × Unit) := lim (.call 11 [⟨Y_impl_Chain, a0, (.pair (.pair .lit (.pair (.ro [(10000000, 0)]) (.pair (.ro [(10000000, 0)]) .lit))) (.pair (.pair .lit (.pair (.ro [(10000000, 0)]) .lit)) (.pair (.ro [(10000000, 0)]) (.pair (.ro [(10000000, 0)]) (.pair (.ro [(10000000, 0)]) (.pair (.ro [(10000000, 0)]) .lit))))))⟩, ⟨.str, a1, .lit⟩] (.pair (.int .i64) .unit) .lit)
noncomputable def spec_LastChange_4 (x1 : ByteArray) (x5 : Int) (s0 : impl_Chain) : Option (Int × Unit) := lim (.head 11 (cont 11 4) ⟨[(1, ⟨.str, x1, .lit⟩), (2, ⟨(.bx Y_impl_Chain), Ty.dflt (.bx Y_impl_Chain), (.ref 5000000)⟩), (5, ⟨(.int .i64), x5, .lit⟩)], [.live ⟨(.bx Y_impl_Chain), s0, (.own (.pair (.pair .lit (.pair (.ro [(10000000, 0)]) (.pair (.ro [(10000000, 0)]) .lit))) (.pair (.pair .lit (.pair (.ro [(10000000, 0)]) .lit)) (.pair (.ro [(10000000, 0)]) (.pair (.ro [(10000000, 0)]) (.pair (.ro [(10000000, 0)]) (.pair (.ro [(10000000, 0)]) .lit)))))))⟩ 0 0]⟩ (.pair (.int .i64) .unit) .lit)
/-- laws.eqAnswerS -/
noncomputable def laws_eqAnswerS (a0 : (List impl_Answer)) (a1 : (List impl_Answer)) : Option (Bool × Unit) := lim (.call 37 [⟨(.sl Y_impl_Answer), a0, (.ro [(10000000, 0)])⟩, ⟨(.sl Y_impl_Answer), a1, (.ro [(10000001, 0)])⟩] (.pair .bool .unit) .lit)
noncomputable def laws_eqAnswerS_4 (x0 : (List impl_Answer)) (x1 : (List impl_Answer)) (x5 : Int) : Option (Bool × Unit) := lim (.head 37 (cont 37 4) ⟨[(0, ⟨(.sl Y_impl_Answer), x0, (.ro [(10000000, 0)])⟩), (1, ⟨(.sl Y_impl_Answer), x1, (.ro [(10000001, 0)])⟩), (5, ⟨(.int .i64), x5, .lit⟩)], []⟩ (.pair .bool .unit) .lit)
/-- laws.eqMessageS -/
noncomputable def laws_eqMessageS (a0 : (List impl_Message)) (a1 : (List impl_Message)) : Option (Bool × Unit) := lim (.call 36 [⟨(.sl Y_impl_Message), a0, (.ro [(10000000, 0)])⟩, ⟨(.sl Y_impl_Message), a1, (.ro [(10000001, 0)])⟩] (.pair .bool .unit) .lit)
noncomputable def laws_eqMessageS_4 (x0 : (List impl_Message)) (x1 : (List impl_Message)) (x5 : Int) : Option (Bool × Unit) := lim (.head 36 (cont 36 4) ⟨[(0, ⟨(.sl Y_impl_Message), x0, (.ro [(10000000, 0)])⟩), (1, ⟨(.sl Y_impl_Message), x1, (.ro [(10000001, 0)])⟩), (5, ⟨(.int .i64), x5, .lit⟩)], []⟩ (.pair .bool .unit) .lit)
/-- laws.eqBoolS -/
noncomputable def laws_eqBoolS (a0 : (List Bool)) (a1 : (List Bool)) : Option (Bool × Unit) := lim (.call 35 [⟨(.sl .bool), a0, (.ro [(10000000, 0)])⟩, ⟨(.sl .bool), a1, (.ro [(10000001, 0)])⟩] (.pair .bool .unit) .lit)
noncomputable def laws_eqBoolS_4 (x0 : (List Bool)) (x1 : (List Bool)) (x5 : Int) : Option (Bool × Unit) := lim (.head 35 (cont 35 4) ⟨[(0, ⟨(.sl .bool), x0, (.ro [(10000000, 0)])⟩), (1, ⟨(.sl .bool), x1, (.ro [(10000001, 0)])⟩), (5, ⟨(.int .i64), x5, .lit⟩)], []⟩ (.pair .bool .unit) .lit)
/-- laws.eqReplicaS -/
noncomputable def laws_eqReplicaS (a0 : (List impl_Replica)) (a1 : (List impl_Replica)) : Option (Bool × Unit) := lim (.call 34 [⟨(.sl Y_impl_Replica), a0, (.ro [(10000000, 0)])⟩, ⟨(.sl Y_impl_Replica), a1, (.ro [(10000001, 0)])⟩] (.pair .bool .unit) .lit)
noncomputable def laws_eqReplicaS_4 (x0 : (List impl_Replica)) (x1 : (List impl_Replica)) (x5 : Int) : Option (Bool × Unit) := lim (.head 34 (cont 34 4) ⟨[(0, ⟨(.sl Y_impl_Replica), x0, (.ro [(10000000, 0)])⟩), (1, ⟨(.sl Y_impl_Replica), x1, (.ro [(10000001, 0)])⟩), (5, ⟨(.int .i64), x5, .lit⟩)], []⟩ (.pair .bool .unit) .lit)
/-- laws.eqConfig -/
noncomputable def laws_eqConfig (a0 : impl_Config) (a1 : impl_Config) : Option (Bool × Unit) := lim (.call 33 [⟨Y_impl_Config, a0, (.pair .lit (.pair (.ro [(10000000, 0)]) .lit))⟩, ⟨Y_impl_Config, a1, (.pair .lit (.pair (.ro [(10000001, 0)]) .lit))⟩] (.pair .bool .unit) .lit)
/-- laws.eqState -/
noncomputable def laws_eqState (a0 : impl_State) (a1 : impl_State) : Option (Bool × Unit) := lim (.call 15 [⟨Y_impl_State, a0, (.pair .lit (.pair (.ro [(10000000, 0)]) (.pair (.ro [(10000000, 0)]) .lit)))⟩, ⟨Y_impl_State, a1, (.pair .lit (.pair (.ro [(10000001, 0)]) (.pair (.ro [(10000001, 0)]) .lit)))⟩] (.pair .bool .unit) .lit)
/-- laws.toAnswerS -/
noncomputable def laws_toAnswerS (a0 : (List laws_Answer)) : Option ((List impl_Answer) × Unit) := lim (.call 31 [⟨(.sl Y_laws_Answer), a0, (.ro [(10000000, 0)])⟩] (.pair (.sl Y_impl_Answer) .unit) (.pair (.own .lit) .lit))
noncomputable def laws_toAnswerS_3 (x0 : (List laws_Answer)) (x4 : Int) (s0 : (List impl_Answer)) : Option ((List impl_Answer) × Unit) := lim (.head 31 (cont 31 3) ⟨[(0, ⟨(.sl Y_laws_Answer), x0, (.ro [(10000000, 0)])⟩), (3, ⟨(.sl Y_impl_Answer), Ty.dflt (.sl Y_impl_Answer), (.ref 5000000)⟩), (4, ⟨(.int .i64), x4, .lit⟩)], [.live ⟨(.sl Y_impl_Answer), s0, (.own .lit)⟩ 0 0]⟩ (.pair (.sl Y_impl_Answer) .unit) (.pair (.own .lit) .lit))
/-- laws.toMessageS -/
noncomputable def laws_toMessageS (a0 : (List laws_Message)) : Option ((List impl_Message) × Unit) := lim (.call 30 [⟨(.sl Y_laws_Message), a0, (.ro [(10000000, 0)])⟩] (.pair (.sl Y_impl_Message) .unit) (.pair (.own (.pair .lit (.pair .lit (.pair .lit (.pair (.pair .lit (.pair (.own .lit) .lit)) (.pair (.own .lit) .lit)))))) .lit))
noncomputable def laws_toMessageS_3 (x0 : (List laws_Message)) (x4 : Int) (s0 : (List impl_Message)) : Option ((List impl_Message) × Unit) := lim (.head 30 (cont 30 3) ⟨[(0, ⟨(.sl Y_laws_Message), x0, (.ro [(10000000, 0)])⟩), (3, ⟨(.sl Y_impl_Message), Ty.dflt (.sl Y_impl_Message), (.ref 5000000)⟩), (4, ⟨(.int .i64), x4, .lit⟩)], [.live ⟨(.sl Y_impl_Message), s0, (.own (.pair .lit (.pair .lit (.pair .lit (.pair (.pair .lit (.pair (.own .lit) .lit)) (.pair (.own .lit) .lit))))))⟩ 0 0]⟩ (.pair (.sl Y_impl_Message) .unit) (.pair (.own (.pair .lit (.pair .lit (.pair .lit (.pair (.pair .lit (.pair (.own .lit) .lit)) (.pair (.own .lit) .lit)))))) .lit))
/-- laws.toBoolS -/
noncomputable def laws_toBoolS (a0 : (List Bool)) : Option ((List Bool) × Unit) := lim (.call 29 [⟨(.sl .bool), a0, (.ro [(10000000, 0)])⟩] (.pair (.sl .bool) .unit) (.pair (.own .lit) .lit))
noncomputable def laws_toBoolS_3 (x0 : (List Bool)) (x4 : Int) (s0 : (List Bool)) : Option ((List Bool) × Unit) := lim (.head 29 (cont 29 3) ⟨[(0, ⟨(.sl .bool), x0, (.ro [(10000000, 0)])⟩), (3, ⟨(.sl .bool), Ty.dflt (.sl .bool), (.ref 5000000)⟩), (4, ⟨(.int .i64), x4, .lit⟩)], [.live ⟨(.sl .bool), s0, (.own .lit)⟩ 0 0]⟩ (.pair (.sl .bool) .unit) (.pair (.own .lit) .lit))
/-- laws.toReplicaS -/
noncomputable def laws_toReplicaS (a0 : (List laws_Replica)) : Option ((List impl_Replica) × Unit) := lim (.call 28 [⟨(.sl Y_laws_Replica), a0, (.ro [(10000000, 0)])⟩] (.pair (.sl Y_impl_Replica) .unit) (.pair (.own (.pair (.pair .lit (.pair (.own .lit) .lit)) (.pair .lit (.pair (.own .lit) .lit)))) .lit))
noncomputable def laws_toReplicaS_3 (x0 : (List laws_Replica)) (x4 : Int) (s0 : (List impl_Replica)) : Option ((List impl_Replica) × Unit) := lim (.head 28 (cont 28 3) ⟨[(0, ⟨(.sl Y_laws_Replica), x0, (.ro [(10000000, 0)])⟩), (3, ⟨(.sl Y_impl_Replica), Ty.dflt (.sl Y_impl_Replica), (.ref 5000000)⟩), (4, ⟨(.int .i64), x4, .lit⟩)], [.live ⟨(.sl Y_impl_Replica), s0, (.own (.pair (.pair .lit (.pair (.own .lit) .lit)) (.pair .lit (.pair (.own .lit) .lit))))⟩ 0 0]⟩ (.pair (.sl Y_impl_Replica) .unit) (.pair (.own (.pair (.pair .lit (.pair (.own .lit) .lit)) (.pair .lit (.pair (.own .lit) .lit)))) .lit))
/-- laws.toConfig -/
noncomputable def laws_toConfig (a0 : laws_Config) : Option (impl_Config × Unit) := lim (.call 27 [⟨Y_laws_Config, a0, (.pair .lit (.pair (.ro [(10000000, 0)]) .lit))⟩] (.pair Y_impl_Config .unit) (.pair (.pair .lit (.pair (.own .lit) .lit)) .lit))
/-- laws.toState -/
noncomputable def laws_toState (a0 : laws_State) : Option (impl_State × Unit) := lim (.call 26 [⟨Y_laws_State, a0, (.pair .lit (.pair (.ro [(10000000, 0)]) (.pair (.ro [(10000000, 0)]) .lit)))⟩] (.pair Y_impl_State .unit) (.pair (.pair .lit (.pair (.own .lit) (.pair (.own .lit) .lit))) .lit))
/-- impl.PairGet -/
noncomputable def impl_PairGet (a0 : (List impl_Pair)) (a1 : ByteArray) : Option (Int × Unit) := lim (.call 32 [⟨(.sl Y_impl_Pair), a0, (.ro [(10000000, 0)])⟩, ⟨.str, a1, .lit⟩] (.pair (.int .i64) .unit) .lit)
/-- impl.StateAt -/
noncomputable def impl_StateAt (a0 : impl_Chain) (a1 : Int) : Option ((impl_State × (Bool × Unit)) × Unit) := lim (.call 14 [⟨Y_impl_Chain, a0, (.pair (.pair .lit (.pair (.ro [(10000000, 0)]) (.pair (.ro [(10000000, 0)]) .lit))) (.pair (.pair .lit (.pair (.ro [(10000000, 0)]) .lit)) (.pair (.ro [(10000000, 0)]) (.pair (.ro [(10000000, 0)]) (.pair (.ro [(10000000, 0)]) (.pair (.ro [(10000000, 0)]) .lit))))))⟩, ⟨(.int .i64), a1, .lit⟩] (.pair (.tc Y_impl_State (.tc .bool .unit)) .unit) (.pair (.pair (.pair .lit (.pair (.own .lit) (.pair (.own .lit) .lit))) .lit) .lit))
/-- spec.PairGet -/
noncomputable def spec_PairGet (a0 : (List impl_Pair)) (a1 : ByteArray) : Option (Int × Unit) := lim (.call 25 [⟨(.sl Y_impl_Pair), a0, (.ro [(10000000, 0)])⟩, ⟨.str, a1, .lit⟩] (.pair (.int .i64) .unit) .lit)
/-- spec.StateAt -/
noncomputable def spec_StateAt (a0 : impl_Chain) (a1 : Int) : Option ((impl_State × (Bool × Unit)) × Unit) := lim (.call 13 [⟨Y_impl_Chain, a0, (.pair (.pair .lit (.pair (.ro [(10000000, 0)]) (.pair (.ro [(10000000, 0)]) .lit))) (.pair (.pair .lit (.pair (.ro [(10000000, 0)]) .lit)) (.pair (.ro [(10000000, 0)]) (.pair (.ro [(10000000, 0)]) (.pair (.ro [(10000000, 0)]) (.pair (.ro [(10000000, 0)]) .lit))))))⟩, ⟨(.int .i64), a1, .lit⟩] (.pair (.tc Y_impl_State (.tc .bool .unit)) .unit) (.pair (.pair (.pair .lit (.pair (.own .lit) (.pair (.own .lit) .lit))) .lit) .lit))
/-- laws.szAnswerS -/
noncomputable def laws_szAnswerS (a0 : (List laws_Answer)) (a1 : Int) : Option (Int × Unit) := lim (.call 24 [⟨(.sl Y_laws_Answer), a0, (.ro [(10000000, 0)])⟩, ⟨(.int .i64), a1, .lit⟩] (.pair (.int .i64) .unit) .lit)
noncomputable def laws_szAnswerS_5 (x0 : (List laws_Answer)) (x1 : Int) (x5 : Int) : Option (Int × Unit) := lim (.head 24 (cont 24 5) ⟨[(0, ⟨(.sl Y_laws_Answer), x0, (.ro [(10000000, 0)])⟩), (1, ⟨(.int .i64), x1, .lit⟩), (5, ⟨(.int .i64), x5, .lit⟩)], []⟩ (.pair (.int .i64) .unit) .lit)
/-- laws.szMessageS -/
noncomputable def laws_szMessageS (a0 : (List laws_Message)) (a1 : Int) : Option (Int × Unit) := lim (.call 23 [⟨(.sl Y_laws_Message), a0, (.ro [(10000000, 0)])⟩, ⟨(.int .i64), a1, .lit⟩] (.pair (.int .i64) .unit) .lit)
noncomputable def laws_szMessageS_5 (x0 : (List laws_Message)) (x1 : Int) (x5 : Int) : Option (Int × Unit) := lim (.head 23 (cont 23 5) ⟨[(0, ⟨(.sl Y_laws_Message), x0, (.ro [(10000000, 0)])⟩), (1, ⟨(.int .i64), x1, .lit⟩), (5, ⟨(.int .i64), x5, .lit⟩)], []⟩ (.pair (.int .i64) .unit) .lit)
/-- laws.szBoolS -/
noncomputable def laws_szBoolS (a0 : (List Bool)) (a1 : Int) : Option (Int × Unit) := lim (.call 22 [⟨(.sl .bool), a0, (.ro [(10000000, 0)])⟩, ⟨(.int .i64), a1, .lit⟩] (.pair (.int .i64) .unit) .lit)
/-- laws.szReplicaS -/
noncomputable def laws_szReplicaS (a0 : (List laws_Replica)) (a1 : Int) : Option (Int × Unit) := lim (.call 21 [⟨(.sl Y_laws_Replica), a0, (.ro [(10000000, 0)])⟩, ⟨(.int .i64), a1, .lit⟩] (.pair (.int .i64) .unit) .lit)
noncomputable def laws_szReplicaS_5 (x0 : (List laws_Replica)) (x1 : Int) (x5 : Int) : Option (Int × Unit) := lim (.head 21 (cont 21 5) ⟨[(0, ⟨(.sl Y_laws_Replica), x0, (.ro [(10000000, 0)])⟩), (1, ⟨(.int .i64), x1, .lit⟩), (5, ⟨(.int .i64), x5, .lit⟩)], []⟩ (.pair (.int .i64) .unit) .lit)
/-- laws.szConfig -/
noncomputable def laws_szConfig (a0 : laws_Config) (a1 : Int) : Option (Int × Unit) := lim (.call 20 [⟨Y_laws_Config, a0, (.pair .lit (.pair (.ro [(10000000, 0)]) .lit))⟩, ⟨(.int .i64), a1, .lit⟩] (.pair (.int .i64) .unit) .lit)
/-- laws.szState -/
noncomputable def laws_szState (a0 : laws_State) (a1 : Int) : Option (Int × Unit) := lim (.call 19 [⟨Y_laws_State, a0, (.pair .lit (.pair (.ro [(10000000, 0)]) (.pair (.ro [(10000000, 0)]) .lit)))⟩, ⟨(.int .i64), a1, .lit⟩] (.pair (.int .i64) .unit) .lit)
/-- impl.ChainValid -/
noncomputable def impl_ChainValid (a0 : impl_Chain) : Option (Bool × Unit) := lim (.call 39 [⟨Y_impl_Chain, a0, (.pair (.pair .lit (.pair (.ro [(10000000, 0)]) (.pair (.ro [(10000000, 0)]) .lit))) (.pair (.pair .lit (.pair (.ro [(10000000, 0)]) .lit)) (.pair (.ro [(10000000, 0)]) (.pair (.ro [(10000000, 0)]) (.pair (.ro [(10000000, 0)]) (.pair (.ro [(10000000, 0)]) .lit))))))⟩] (.pair .bool .unit) .lit)
noncomputable def impl_ChainValid_4 (x36 : (List impl_Replica)) (x37 : Int) (x38 : Int) (s0 : impl_Chain) : Option (Bool × Unit) := lim (.head 39 (cont 39 4) ⟨[(1, ⟨(.bx Y_impl_Chain), Ty.dflt (.bx Y_impl_Chain), (.ref 5000000)⟩), (36, ⟨(.sl Y_impl_Replica), x36, (.ro [(10000000, 0)])⟩), (37, ⟨(.int .i64), x37, .lit⟩), (38, ⟨(.int .i64), x38, .lit⟩)], [.live ⟨(.bx Y_impl_Chain), s0, (.own (.pair (.pair .lit (.pair (.ro [(10000000, 0)]) (.pair (.ro [(10000000, 0)]) .lit))) (.pair (.pair .lit (.pair (.ro [(10000000, 0)]) .lit)) (.pair (.ro [(10000000, 0)]) (.pair (.ro [(10000000, 0)]) (.pair (.ro [(10000000, 0)]) (.pair (.ro [(10000000, 0)]) .lit)))))))⟩ 0 0]⟩ (.pair .bool .unit) .lit)
noncomputable def impl_ChainValid_10 (x56 : (List impl_Message)) (x57 : Int) (x58 : Int) (s0 : impl_Chain) : Option (Bool × Unit) := lim (.head 39 (cont 39 10) ⟨[(1, ⟨(.bx Y_impl_Chain), Ty.dflt (.bx Y_impl_Chain), (.ref 5000000)⟩), (56, ⟨(.sl Y_impl_Message), x56, (.ro [(10000000, 0)])⟩), (57, ⟨(.int .i64), x57, .lit⟩), (58, ⟨(.int .i64), x58, .lit⟩)], [.live ⟨(.bx Y_impl_Chain), s0, (.own (.pair (.pair .lit (.pair (.ro [(10000000, 0)]) (.pair (.ro [(10000000, 0)]) .lit))) (.pair (.pair .lit (.pair (.ro [(10000000, 0)]) .lit)) (.pair (.ro [(10000000, 0)]) (.pair (.ro [(10000000, 0)]) (.pair (.ro [(10000000, 0)]) (.pair (.ro [(10000000, 0)]) .lit)))))))⟩ 0 0]⟩ (.pair .bool .unit) .lit)
/-- spec.ChainValid -/
noncomputable def spec_ChainValid (a0 : impl_Chain) : Option (Bool × Unit) := lim (.call 38 [⟨Y_impl_Chain, a0, (.pair (.pair .lit (.pair (.ro [(10000000, 0)]) (.pair (.ro [(10000000, 0)]) .lit))) (.pair (.pair .lit (.pair (.ro [(10000000, 0)]) .lit)) (.pair (.ro [(10000000, 0)]) (.pair (.ro [(10000000, 0)]) (.pair (.ro [(10000000, 0)]) (.pair (.ro [(10000000, 0)]) .lit))))))⟩] (.pair .bool .unit) .lit)
noncomputable def spec_ChainValid_4 (x3 : Int) (s0 : impl_Chain) : Option (Bool × Unit) := lim (.head 38 (cont 38 4) ⟨[(1, ⟨(.bx Y_impl_Chain), Ty.dflt (.bx Y_impl_Chain), (.ref 5000000)⟩), (3, ⟨(.int .i64), x3, .lit⟩)], [.live ⟨(.bx Y_impl_Chain), s0, (.own (.pair (.pair .lit (.pair (.ro [(10000000, 0)]) (.pair (.ro [(10000000, 0)]) .lit))) (.pair (.pair .lit (.pair (.ro [(10000000, 0)]) .lit)) (.pair (.ro [(10000000, 0)]) (.pair (.ro [(10000000, 0)]) (.pair (.ro [(10000000, 0)]) (.pair (.ro [(10000000, 0)]) .lit)))))))⟩ 0 0]⟩ (.pair .bool .unit) .lit)
noncomputable def spec_ChainValid_9 (x4 : Int) (s0 : impl_Chain) : Option (Bool × Unit) := lim (.head 38 (cont 38 9) ⟨[(1, ⟨(.bx Y_impl_Chain), Ty.dflt (.bx Y_impl_Chain), (.ref 5000000)⟩), (4, ⟨(.int .i64), x4, .lit⟩)], [.live ⟨(.bx Y_impl_Chain), s0, (.own (.pair (.pair .lit (.pair (.ro [(10000000, 0)]) (.pair (.ro [(10000000, 0)]) .lit))) (.pair (.pair .lit (.pair (.ro [(10000000, 0)]) .lit)) (.pair (.ro [(10000000, 0)]) (.pair (.ro [(10000000, 0)]) (.pair (.ro [(10000000, 0)]) (.pair (.ro [(10000000, 0)]) .lit)))))))⟩ 0 0]⟩ (.pair .bool .unit) .lit)
noncomputable def spec_ChainValid_14 (x5 : Int) (s0 : impl_Chain) : Option (Bool × Unit) := lim (.head 38 (cont 38 14) ⟨[(1, ⟨(.bx Y_impl_Chain), Ty.dflt (.bx Y_impl_Chain), (.ref 5000000)⟩), (5, ⟨(.int .i64), x5, .lit⟩)], [.live ⟨(.bx Y_impl_Chain), s0, (.own (.pair (.pair .lit (.pair (.ro [(10000000, 0)]) (.pair (.ro [(10000000, 0)]) .lit))) (.pair (.pair .lit (.pair (.ro [(10000000, 0)]) .lit)) (.pair (.ro [(10000000, 0)]) (.pair (.ro [(10000000, 0)]) (.pair (.ro [(10000000, 0)]) (.pair (.ro [(10000000, 0)]) .lit)))))))⟩ 0 0]⟩ (.pair .bool .unit) .lit)
/-- laws.eqAnswer -/
noncomputable def laws_eqAnswer (a0 : impl_Answer) (a1 : impl_Answer) : Option (Bool × Unit) := lim (.call 78 [⟨Y_impl_Answer, a0, .lit⟩, ⟨Y_impl_Answer, a1, .lit⟩] (.pair .bool .unit) .lit)
/-- laws.eqMessage -/
noncomputable def laws_eqMessage (a0 : impl_Message) (a1 : impl_Message) : Option (Bool × Unit) := lim (.call 77 [⟨Y_impl_Message, a0, (.pair .lit (.pair .lit (.pair .lit (.pair (.pair .lit (.pair (.ro [(10000000, 0)]) .lit)) (.pair (.ro [(10000000, 0)]) .lit)))))⟩, ⟨Y_impl_Message, a1, (.pair .lit (.pair .lit (.pair .lit (.pair (.pair .lit (.pair (.ro [(10000001, 0)]) .lit)) (.pair (.ro [(10000001, 0)]) .lit)))))⟩] (.pair .bool .unit) .lit)
/-- laws.eqReplica -/
noncomputable def laws_eqReplica (a0 : impl_Replica) (a1 : impl_Replica) : Option (Bool × Unit) := lim (.call 76 [⟨Y_impl_Replica, a0, (.pair (.pair .lit (.pair (.ro [(10000000, 0)]) .lit)) (.pair .lit (.pair (.ro [(10000000, 0)]) .lit)))⟩, ⟨Y_impl_Replica, a1, (.pair (.pair .lit (.pair (.ro [(10000001, 0)]) .lit)) (.pair .lit (.pair (.ro [(10000001, 0)]) .lit)))⟩] (.pair .bool .unit) .lit)
/-- laws.eqIntS -/
noncomputable def laws_eqIntS (a0 : (List Int)) (a1 : (List Int)) : Option (Bool × Unit) := lim (.call 75 [⟨(.sl (.int .i64)), a0, (.ro [(10000000, 0)])⟩, ⟨(.sl (.int .i64)), a1, (.ro [(10000001, 0)])⟩] (.pair .bool .unit) .lit)
noncomputable def laws_eqIntS_4 (x0 : (List Int)) (x1 : (List Int)) (x5 : Int) : Option (Bool × Unit) := lim (.head 75 (cont 75 4) ⟨[(0, ⟨(.sl (.int .i64)), x0, (.ro [(10000000, 0)])⟩), (1, ⟨(.sl (.int .i64)), x1, (.ro [(10000001, 0)])⟩), (5, ⟨(.int .i64), x5, .lit⟩)], []⟩ (.pair .bool .unit) .lit)
/-- laws.eqSessionS -/
noncomputable def laws_eqSessionS (a0 : (List impl_Session)) (a1 : (List impl_Session)) : Option (Bool × Unit) := lim (.call 47 [⟨(.sl Y_impl_Session), a0, (.ro [(10000000, 0)])⟩, ⟨(.sl Y_impl_Session), a1, (.ro [(10000001, 0)])⟩] (.pair .bool .unit) .lit)
noncomputable def laws_eqSessionS_4 (x0 : (List impl_Session)) (x1 : (List impl_Session)) (x5 : Int) : Option (Bool × Unit) := lim (.head 47 (cont 47 4) ⟨[(0, ⟨(.sl Y_impl_Session), x0, (.ro [(10000000, 0)])⟩), (1, ⟨(.sl Y_impl_Session), x1, (.ro [(10000001, 0)])⟩), (5, ⟨(.int .i64), x5, .lit⟩)], []⟩ (.pair .bool .unit) .lit)
/-- laws.eqPairS -/
noncomputable def laws_eqPairS (a0 : (List impl_Pair)) (a1 : (List impl_Pair)) : Option (Bool × Unit) := lim (.call 46 [⟨(.sl Y_impl_Pair), a0, (.ro [(10000000, 0)])⟩, ⟨(.sl Y_impl_Pair), a1, (.ro [(10000001, 0)])⟩] (.pair .bool .unit) .lit)
noncomputable def laws_eqPairS_4 (x0 : (List impl_Pair)) (x1 : (List impl_Pair)) (x5 : Int) : Option (Bool × Unit) := lim (.head 46 (cont 46 4) ⟨[(0, ⟨(.sl Y_impl_Pair), x0, (.ro [(10000000, 0)])⟩), (1, ⟨(.sl Y_impl_Pair), x1, (.ro [(10000001, 0)])⟩), (5, ⟨(.int .i64), x5, .lit⟩)], []⟩ (.pair .bool .unit) .lit)
/-- laws.eqInterval -/
noncomputable def laws_eqInterval (a0 : impl_Interval) (a1 : impl_Interval) : Option (Bool × Unit) := lim (.call 45 [⟨Y_impl_Interval, a0, .lit⟩, ⟨Y_impl_Interval, a1, .lit⟩] (.pair .bool .unit) .lit)
/-- laws.toAnswer -/
noncomputable def laws_toAnswer (a0 : laws_Answer) : Option (impl_Answer × Unit) := lim (.call 72 [⟨Y_laws_Answer, a0, .lit⟩] (.pair Y_impl_Answer .unit) .lit)
/-- laws.toMessage -/
noncomputable def laws_toMessage (a0 : laws_Message) : Option (impl_Message × Unit) := lim (.call 71 [⟨Y_laws_Message, a0, (.pair .lit (.pair .lit (.pair .lit (.pair (.pair .lit (.pair (.ro [(10000000, 0)]) .lit)) (.pair (.ro [(10000000, 0)]) .lit)))))⟩] (.pair Y_impl_Message .unit) (.pair (.pair .lit (.pair .lit (.pair .lit (.pair (.pair .lit (.pair (.own .lit) .lit)) (.pair (.own .lit) .lit))))) .lit))
/-- laws.toReplica -/
noncomputable def laws_toReplica (a0 : laws_Replica) : Option (impl_Replica × Unit) := lim (.call 70 [⟨Y_laws_Replica, a0, (.pair (.pair .lit (.pair (.ro [(10000000, 0)]) .lit)) (.pair .lit (.pair (.ro [(10000000, 0)]) .lit)))⟩] (.pair Y_impl_Replica .unit) (.pair (.pair (.pair .lit (.pair (.own .lit) .lit)) (.pair .lit (.pair (.own .lit) .lit))) .lit))
/-- laws.toIntS -/
noncomputable def laws_toIntS (a0 : (List Int)) : Option ((List Int) × Unit) := lim (.call 69 [⟨(.sl (.int .i64)), a0, (.ro [(10000000, 0)])⟩] (.pair (.sl (.int .i64)) .unit) (.pair (.own .lit) .lit))
noncomputable def laws_toIntS_3 (x0 : (List Int)) (x4 : Int) (s0 : (List Int)) : Option ((List Int) × Unit) := lim (.head 69 (cont 69 3) ⟨[(0, ⟨(.sl (.int .i64)), x0, (.ro [(10000000, 0)])⟩), (3, ⟨(.sl (.int .i64)), Ty.dflt (.sl (.int .i64)), (.ref 5000000)⟩), (4, ⟨(.int .i64), x4, .lit⟩)], [.live ⟨(.sl (.int .i64)), s0, (.own .lit)⟩ 0 0]⟩ (.pair (.sl (.int .i64)) .unit) (.pair (.own .lit) .lit))
/-- laws.toSessionS -/
noncomputable def laws_toSessionS (a0 : (List laws_Session)) : Option ((List impl_Session) × Unit) := lim (.call 68 [⟨(.sl Y_laws_Session), a0, (.ro [(10000000, 0)])⟩] (.pair (.sl Y_impl_Session) .unit) (.pair (.own .lit) .lit))
noncomputable def laws_toSessionS_3 (x0 : (List laws_Session)) (x4 : Int) (s0 : (List impl_Session)) : Option ((List impl_Session) × Unit) := lim (.head 68 (cont 68 3) ⟨[(0, ⟨(.sl Y_laws_Session), x0, (.ro [(10000000, 0)])⟩), (3, ⟨(.sl Y_impl_Session), Ty.dflt (.sl Y_impl_Session), (.ref 5000000)⟩), (4, ⟨(.int .i64), x4, .lit⟩)], [.live ⟨(.sl Y_impl_Session), s0, (.own .lit)⟩ 0 0]⟩ (.pair (.sl Y_impl_Session) .unit) (.pair (.own .lit) .lit))
/-- laws.toPairS -/
noncomputable def laws_toPairS (a0 : (List laws_Pair)) : Option ((List impl_Pair) × Unit) := lim (.call 67 [⟨(.sl Y_laws_Pair), a0, (.ro [(10000000, 0)])⟩] (.pair (.sl Y_impl_Pair) .unit) (.pair (.own .lit) .lit))
noncomputable def laws_toPairS_3 (x0 : (List laws_Pair)) (x4 : Int) (s0 : (List impl_Pair)) : Option ((List impl_Pair) × Unit) := lim (.head 67 (cont 67 3) ⟨[(0, ⟨(.sl Y_laws_Pair), x0, (.ro [(10000000, 0)])⟩), (3, ⟨(.sl Y_impl_Pair), Ty.dflt (.sl Y_impl_Pair), (.ref 5000000)⟩), (4, ⟨(.int .i64), x4, .lit⟩)], [.live ⟨(.sl Y_impl_Pair), s0, (.own .lit)⟩ 0 0]⟩ (.pair (.sl Y_impl_Pair) .unit) (.pair (.own .lit) .lit))
/-- laws.toInterval -/
noncomputable def laws_toInterval (a0 : laws_Interval) : Option (impl_Interval × Unit) := lim (.call 66 [⟨Y_laws_Interval, a0, .lit⟩] (.pair Y_impl_Interval .unit) .lit)
/-- impl.pairPlace -/
noncomputable def impl_pairPlace (a0 : (List impl_Pair)) (a1 : ByteArray) : Option ((Int × (Bool × Unit)) × Unit) := lim (.call 74 [⟨(.sl Y_impl_Pair), a0, (.ro [(10000000, 0)])⟩, ⟨.str, a1, .lit⟩] (.pair (.tc (.int .i64) (.tc .bool .unit)) .unit) .lit)
/-- impl.PairsValid -/
noncomputable def impl_PairsValid (a0 : (List impl_Pair)) : Option (Bool × Unit) := lim (.call 73 [⟨(.sl Y_impl_Pair), a0, (.ro [(10000000, 0)])⟩] (.pair .bool .unit) .lit)
noncomputable def impl_PairsValid_4 (x0 : (List impl_Pair)) (x8 : (List impl_Pair)) (x9 : Int) (x10 : Int) : Option (Bool × Unit) := lim (.head 73 (cont 73 4) ⟨[(0, ⟨(.sl Y_impl_Pair), x0, (.ro [(10000000, 0)])⟩), (8, ⟨(.sl Y_impl_Pair), x8, (.ro [(10000000, 0)])⟩), (9, ⟨(.int .i64), x9, .lit⟩), (10, ⟨(.int .i64), x10, .lit⟩)], []⟩ (.pair .bool .unit) .lit)
/-- impl.Replay -/
noncomputable def impl_Replay (a0 : impl_State) (a1 : (List impl_Entry)) : Option ((impl_State × ((List Int) × Unit)) × Unit) := lim (.call 43 [⟨Y_impl_State, a0, (.pair .lit (.pair (.ro [(10000000, 0)]) (.pair (.ro [(10000000, 0)]) .lit)))⟩, ⟨(.sl Y_impl_Entry), a1, (.ro [(10000001, 0)])⟩] (.pair (.tc Y_impl_State (.tc (.sl (.int .i64)) .unit)) .unit) (.pair (.pair (.pair .lit (.pair (.own .lit) (.pair (.own .lit) .lit))) (.pair (.own .lit) .lit)) .lit))
noncomputable def impl_Replay_6 (x22 : (List impl_Entry)) (x23 : Int) (x24 : Int) (s0 : impl_State) (s1 : impl_State) (s2 : (List Int)) (s3 : (List impl_Pair)) (s4 : (List impl_Session)) (s5 : (List impl_Pair)) (s6 : (List impl_Session)) : Option ((impl_State × ((List Int) × Unit)) × Unit) := lim (.head 43 (cont 43 6) ⟨[(4, ⟨(.bx Y_impl_State), Ty.dflt (.bx Y_impl_State), (.ref 5000000)⟩), (6, ⟨(.bx Y_impl_State), Ty.dflt (.bx Y_impl_State), (.ref 5000001)⟩), (7, ⟨(.sl (.int .i64)), Ty.dflt (.sl (.int .i64)), (.ref 5000002)⟩), (22, ⟨(.sl Y_impl_Entry), x22, (.ro [(10000001, 0)])⟩), (23, ⟨(.int .i64), x23, .lit⟩), (24, ⟨(.int .i64), x24, .lit⟩)], [.live ⟨(.bx Y_impl_State), s0, (.own (.pair .lit (.pair (.ref 5000003) (.pair (.ref 5000004) .lit))))⟩ 0 0, .live ⟨(.bx Y_impl_State), s1, (.own (.pair .lit (.pair (.ref 5000005) (.pair (.ref 5000006) .lit))))⟩ 0 0, .live ⟨(.sl (.int .i64)), s2, (.own .lit)⟩ 0 0, .live ⟨(.sl Y_impl_Pair), s3, (.own .lit)⟩ 0 0, .live ⟨(.sl Y_impl_Session), s4, (.own .lit)⟩ 0 0, .live ⟨(.sl Y_impl_Pair), s5, (.own .lit)⟩ 0 0, .live ⟨(.sl Y_impl_Session), s6, (.own .lit)⟩ 0 0]⟩ (.pair (.tc Y_impl_State (.tc (.sl (.int .i64)) .unit)) .unit) (.pair (.pair (.pair .lit (.pair (.own .lit) (.pair (.own .lit) .lit))) (.pair (.own .lit) .lit)) .lit))
/-- impl.askedOf -/
noncomputable def impl_askedOf (a0 : (List impl_Answer)) : Option ((List impl_Entry) × Unit) := lim (.call 44 [⟨(.sl Y_impl_Answer), a0, (.ro [(10000000, 0)])⟩] (.pair (.sl Y_impl_Entry) .unit) (.pair (.own .lit) .lit))
noncomputable def impl_askedOf_3 (x6 : (List impl_Answer)) (x7 : Int) (x8 : Int) (s0 : (List impl_Entry)) : Option ((List impl_Entry) × Unit) := lim (.head 44 (cont 44 3) ⟨[(3, ⟨(.sl Y_impl_Entry), Ty.dflt (.sl Y_impl_Entry), (.ref 5000000)⟩), (6, ⟨(.sl Y_impl_Answer), x6, (.ro [(10000000, 0)])⟩), (7, ⟨(.int .i64), x7, .lit⟩), (8, ⟨(.int .i64), x8, .lit⟩)], [.live ⟨(.sl Y_impl_Entry), s0, (.own .lit)⟩ 0 0]⟩ (.pair (.sl Y_impl_Entry) .unit) (.pair (.own .lit) .lit))
/-- spec.PairsValid -/
noncomputable def spec_PairsValid (a0 : (List impl_Pair)) : Option (Bool × Unit) := lim (.call 65 [⟨(.sl Y_impl_Pair), a0, (.ro [(10000000, 0)])⟩] (.pair .bool .unit) .lit)
noncomputable def spec_PairsValid_4 (x0 : (List impl_Pair)) (x3 : Int) : Option (Bool × Unit) := lim (.head 65 (cont 65 4) ⟨[(0, ⟨(.sl Y_impl_Pair), x0, (.ro [(10000000, 0)])⟩), (3, ⟨(.int .i64), x3, .lit⟩)], []⟩ (.pair .bool .unit) .lit)
/-- spec.l4Place -/
noncomputable def spec_l4Place (a0 : (List impl_Pair)) (a1 : ByteArray) : Option (Int × Unit) := lim (.call 64 [⟨(.sl Y_impl_Pair), a0, (.ro [(10000000, 0)])⟩, ⟨.str, a1, .lit⟩] (.pair (.int .i64) .unit) .lit)
noncomputable def spec_l4Place_2 (x0 : (List impl_Pair)) (x1 : ByteArray) (x5 : Int) : Option (Int × Unit) := lim (.head 64 (cont 64 2) ⟨[(0, ⟨(.sl Y_impl_Pair), x0, (.ro [(10000000, 0)])⟩), (1, ⟨.str, x1, .lit⟩), (5, ⟨(.int .i64), x5, .lit⟩)], []⟩ (.pair (.int .i64) .unit) .lit)
/-- spec.Replay -/
noncomputable def spec_Replay (a0 : impl_State) (a1 : (List impl_Entry)) : Option ((impl_State × ((List Int) × Unit)) × Unit) := lim (.call 42 [⟨Y_impl_State, a0, (.pair .lit (.pair (.ro [(10000000, 0)]) (.pair (.ro [(10000000, 0)]) .lit)))⟩, ⟨(.sl Y_impl_Entry), a1, (.ro [(10000001, 0)])⟩] (.pair (.tc Y_impl_State (.tc (.sl (.int .i64)) .unit)) .unit) (.pair (.pair (.pair .lit (.pair (.own .lit) (.pair (.own .lit) .lit))) (.pair (.own .lit) .lit)) .lit))
noncomputable def spec_Replay_6 (x1 : (List impl_Entry)) (x8 : Int) (s0 : impl_State) (s1 : (List Int)) (s2 : impl_State) (s3 : (List impl_Pair)) (s4 : (List impl_Session)) (s5 : (List impl_Pair)) (s6 : (List impl_Session)) : Option ((impl_State × ((List Int) × Unit)) × Unit) := lim (.head 42 (cont 42 6) ⟨[(1, ⟨(.sl Y_impl_Entry), x1, (.ro [(10000001, 0)])⟩), (4, ⟨(.bx Y_impl_State), Ty.dflt (.bx Y_impl_State), (.ref 5000000)⟩), (6, ⟨(.sl (.int .i64)), Ty.dflt (.sl (.int .i64)), (.ref 5000001)⟩), (7, ⟨(.bx Y_impl_State), Ty.dflt (.bx Y_impl_State), (.ref 5000002)⟩), (8, ⟨(.int .i64), x8, .lit⟩)], [.live ⟨(.bx Y_impl_State), s0, (.own (.pair .lit (.pair (.ref 5000003) (.pair (.ref 5000004) .lit))))⟩ 0 0, .live ⟨(.sl (.int .i64)), s1, (.own .lit)⟩ 0 0, .live ⟨(.bx Y_impl_State), s2, (.own (.pair .lit (.pair (.ref 5000005) (.pair (.ref 5000006) .lit))))⟩ 0 0, .live ⟨(.sl Y_impl_Pair), s3, (.own .lit)⟩ 0 0, .live ⟨(.sl Y_impl_Session), s4, (.own .lit)⟩ 0 0, .live ⟨(.sl Y_impl_Pair), s5, (.own .lit)⟩ 0 0, .live ⟨(.sl Y_impl_Session), s6, (.own .lit)⟩ 0 0]⟩ (.pair (.tc Y_impl_State (.tc (.sl (.int .i64)) .unit)) .unit) (.pair (.pair (.pair .lit (.pair (.own .lit) (.pair (.own .lit) .lit))) (.pair (.own .lit) .lit)) .lit))
/-- spec.AnsweredLog -/
noncomputable def spec_AnsweredLog (a0 : impl_Chain) : Option ((List impl_Entry) × Unit) := lim (.call 41 [⟨Y_impl_Chain, a0, (.pair (.pair .lit (.pair (.ro [(10000000, 0)]) (.pair (.ro [(10000000, 0)]) .lit))) (.pair (.pair .lit (.pair (.ro [(10000000, 0)]) .lit)) (.pair (.ro [(10000000, 0)]) (.pair (.ro [(10000000, 0)]) (.pair (.ro [(10000000, 0)]) (.pair (.ro [(10000000, 0)]) .lit))))))⟩] (.pair (.sl Y_impl_Entry) .unit) (.pair (.own .lit) .lit))
noncomputable def spec_AnsweredLog_3 (x4 : Int) (s0 : impl_Chain) (s1 : (List impl_Entry)) : Option ((List impl_Entry) × Unit) := lim (.head 41 (cont 41 3) ⟨[(1, ⟨(.bx Y_impl_Chain), Ty.dflt (.bx Y_impl_Chain), (.ref 5000000)⟩), (3, ⟨(.sl Y_impl_Entry), Ty.dflt (.sl Y_impl_Entry), (.ref 5000001)⟩), (4, ⟨(.int .i64), x4, .lit⟩)], [.live ⟨(.bx Y_impl_Chain), s0, (.own (.pair (.pair .lit (.pair (.ro [(10000000, 0)]) (.pair (.ro [(10000000, 0)]) .lit))) (.pair (.pair .lit (.pair (.ro [(10000000, 0)]) .lit)) (.pair (.ro [(10000000, 0)]) (.pair (.ro [(10000000, 0)]) (.pair (.ro [(10000000, 0)]) (.pair (.ro [(10000000, 0)]) .lit)))))))⟩ 0 0, .live ⟨(.sl Y_impl_Entry), s1, (.own .lit)⟩ 0 0]⟩ (.pair (.sl Y_impl_Entry) .unit) (.pair (.own .lit) .lit))
/-- spec.l1In -/
noncomputable def spec_l1In (a0 : Int) (a1 : Int) (a2 : Int) : Option (Bool × Unit) := lim (.call 40 [⟨(.int .i64), a0, .lit⟩, ⟨(.int .i64), a1, .lit⟩, ⟨(.int .i64), a2, .lit⟩] (.pair .bool .unit) .lit)
/-- laws.szAnswer -/
noncomputable def laws_szAnswer (a0 : laws_Answer) (a1 : Int) : Option (Int × Unit) := lim (.call 63 [⟨Y_laws_Answer, a0, .lit⟩, ⟨(.int .i64), a1, .lit⟩] (.pair (.int .i64) .unit) .lit)
/-- laws.szMessage -/
noncomputable def laws_szMessage (a0 : laws_Message) (a1 : Int) : Option (Int × Unit) := lim (.call 62 [⟨Y_laws_Message, a0, (.pair .lit (.pair .lit (.pair .lit (.pair (.pair .lit (.pair (.ro [(10000000, 0)]) .lit)) (.pair (.ro [(10000000, 0)]) .lit)))))⟩, ⟨(.int .i64), a1, .lit⟩] (.pair (.int .i64) .unit) .lit)
/-- laws.szReplica -/
noncomputable def laws_szReplica (a0 : laws_Replica) (a1 : Int) : Option (Int × Unit) := lim (.call 61 [⟨Y_laws_Replica, a0, (.pair (.pair .lit (.pair (.ro [(10000000, 0)]) .lit)) (.pair .lit (.pair (.ro [(10000000, 0)]) .lit)))⟩, ⟨(.int .i64), a1, .lit⟩] (.pair (.int .i64) .unit) .lit)
/-- laws.szIntS -/
noncomputable def laws_szIntS (a0 : (List Int)) (a1 : Int) : Option (Int × Unit) := lim (.call 60 [⟨(.sl (.int .i64)), a0, (.ro [(10000000, 0)])⟩, ⟨(.int .i64), a1, .lit⟩] (.pair (.int .i64) .unit) .lit)
/-- laws.szSessionS -/
noncomputable def laws_szSessionS (a0 : (List laws_Session)) (a1 : Int) : Option (Int × Unit) := lim (.call 59 [⟨(.sl Y_laws_Session), a0, (.ro [(10000000, 0)])⟩, ⟨(.int .i64), a1, .lit⟩] (.pair (.int .i64) .unit) .lit)
/-- laws.szPairS -/
noncomputable def laws_szPairS (a0 : (List laws_Pair)) (a1 : Int) : Option (Int × Unit) := lim (.call 58 [⟨(.sl Y_laws_Pair), a0, (.ro [(10000000, 0)])⟩, ⟨(.int .i64), a1, .lit⟩] (.pair (.int .i64) .unit) .lit)
noncomputable def laws_szPairS_5 (x0 : (List laws_Pair)) (x1 : Int) (x5 : Int) : Option (Int × Unit) := lim (.head 58 (cont 58 5) ⟨[(0, ⟨(.sl Y_laws_Pair), x0, (.ro [(10000000, 0)])⟩), (1, ⟨(.int .i64), x1, .lit⟩), (5, ⟨(.int .i64), x5, .lit⟩)], []⟩ (.pair (.int .i64) .unit) .lit)
/-- laws.szInterval -/
noncomputable def laws_szInterval (a0 : laws_Interval) (a1 : Int) : Option (Int × Unit) := lim (.call 57 [⟨Y_laws_Interval, a0, .lit⟩, ⟨(.int .i64), a1, .lit⟩] (.pair (.int .i64) .unit) .lit)
/-- impl.BagValid -/
noncomputable def impl_BagValid (a0 : (List impl_Message)) : Option (Bool × Unit) := lim (.call 86 [⟨(.sl Y_impl_Message), a0, (.ro [(10000000, 0)])⟩] (.pair .bool .unit) .lit)
noncomputable def impl_BagValid_4 (x8 : (List impl_Message)) (x9 : Int) (x10 : Int) : Option (Bool × Unit) := lim (.head 86 (cont 86 4) ⟨[(8, ⟨(.sl Y_impl_Message), x8, (.ro [(10000000, 0)])⟩), (9, ⟨(.int .i64), x9, .lit⟩), (10, ⟨(.int .i64), x10, .lit⟩)], []⟩ (.pair .bool .unit) .lit)
/-- impl.ConfigValid -/
noncomputable def impl_ConfigValid (a0 : impl_Config) : Option (Bool × Unit) := lim (.call 85 [⟨Y_impl_Config, a0, (.pair .lit (.pair (.ro [(10000000, 0)]) .lit))⟩] (.pair .bool .unit) .lit)
noncomputable def impl_ConfigValid_5 (x34 : (List Int)) (x35 : Int) (x36 : Int) (s0 : impl_Config) : Option (Bool × Unit) := lim (.head 85 (cont 85 5) ⟨[(1, ⟨(.bx Y_impl_Config), Ty.dflt (.bx Y_impl_Config), (.ref 5000000)⟩), (34, ⟨(.sl (.int .i64)), x34, (.ro [(10000000, 0)])⟩), (35, ⟨(.int .i64), x35, .lit⟩), (36, ⟨(.int .i64), x36, .lit⟩)], [.live ⟨(.bx Y_impl_Config), s0, (.own (.pair .lit (.pair (.ro [(10000000, 0)]) .lit)))⟩ 0 0]⟩ (.pair .bool .unit) .lit)
/-- impl.StateValid -/
noncomputable def impl_StateValid (a0 : impl_State) : Option (Bool × Unit) := lim (.call 84 [⟨Y_impl_State, a0, (.pair .lit (.pair (.ro [(10000000, 0)]) (.pair (.ro [(10000000, 0)]) .lit)))⟩] (.pair .bool .unit) .lit)
noncomputable def impl_StateValid_4 (x25 : (List impl_Pair)) (x26 : Int) (x27 : Int) (s0 : impl_State) : Option (Bool × Unit) := lim (.head 84 (cont 84 4) ⟨[(1, ⟨(.bx Y_impl_State), Ty.dflt (.bx Y_impl_State), (.ref 5000000)⟩), (25, ⟨(.sl Y_impl_Pair), x25, (.ro [(10000000, 0)])⟩), (26, ⟨(.int .i64), x26, .lit⟩), (27, ⟨(.int .i64), x27, .lit⟩)], [.live ⟨(.bx Y_impl_State), s0, (.own (.pair .lit (.pair (.ro [(10000000, 0)]) (.pair (.ro [(10000000, 0)]) .lit))))⟩ 0 0]⟩ (.pair .bool .unit) .lit)
/-- impl.ReplicaValid -/
noncomputable def impl_ReplicaValid (a0 : impl_Replica) : Option (Bool × Unit) := lim (.call 87 [⟨Y_impl_Replica, a0, (.pair (.pair .lit (.pair (.ro [(10000000, 0)]) .lit)) (.pair .lit (.pair (.ro [(10000000, 0)]) .lit)))⟩] (.pair .bool .unit) .lit)
/-- impl.answersValid -/
noncomputable def impl_answersValid (a0 : (List impl_Answer)) : Option (Bool × Unit) := lim (.call 88 [⟨(.sl Y_impl_Answer), a0, (.ro [(10000000, 0)])⟩] (.pair .bool .unit) .lit)
noncomputable def impl_answersValid_4 (x8 : (List impl_Answer)) (x9 : Int) (x10 : Int) : Option (Bool × Unit) := lim (.head 88 (cont 88 4) ⟨[(8, ⟨(.sl Y_impl_Answer), x8, (.ro [(10000000, 0)])⟩), (9, ⟨(.int .i64), x9, .lit⟩), (10, ⟨(.int .i64), x10, .lit⟩)], []⟩ (.pair .bool .unit) .lit)
/-- spec.BagValid -/
noncomputable def spec_BagValid (a0 : (List impl_Message)) : Option (Bool × Unit) := lim (.call 81 [⟨(.sl Y_impl_Message), a0, (.ro [(10000000, 0)])⟩] (.pair .bool .unit) .lit)
noncomputable def spec_BagValid_2 (x0 : (List impl_Message)) (x3 : Int) : Option (Bool × Unit) := lim (.head 81 (cont 81 2) ⟨[(0, ⟨(.sl Y_impl_Message), x0, (.ro [(10000000, 0)])⟩), (3, ⟨(.int .i64), x3, .lit⟩)], []⟩ (.pair .bool .unit) .lit)
/-- spec.ConfigValid -/
noncomputable def spec_ConfigValid (a0 : impl_Config) : Option (Bool × Unit) := lim (.call 80 [⟨Y_impl_Config, a0, (.pair .lit (.pair (.ro [(10000000, 0)]) .lit))⟩] (.pair .bool .unit) .lit)
noncomputable def spec_ConfigValid_4 (x3 : Int) (s0 : impl_Config) : Option (Bool × Unit) := lim (.head 80 (cont 80 4) ⟨[(1, ⟨(.bx Y_impl_Config), Ty.dflt (.bx Y_impl_Config), (.ref 5000000)⟩), (3, ⟨(.int .i64), x3, .lit⟩)], [.live ⟨(.bx Y_impl_Config), s0, (.own (.pair .lit (.pair (.ro [(10000000, 0)]) .lit)))⟩ 0 0]⟩ (.pair .bool .unit) .lit)
noncomputable def spec_ConfigValid_9 (x3 : Int) (x4 : Int) (s0 : impl_Config) : Option (Bool × Unit) := lim (.head 80 (cont 80 9) ⟨[(1, ⟨(.bx Y_impl_Config), Ty.dflt (.bx Y_impl_Config), (.ref 5000000)⟩), (3, ⟨(.int .i64), x3, .lit⟩), (4, ⟨(.int .i64), x4, .lit⟩)], [.live ⟨(.bx Y_impl_Config), s0, (.own (.pair .lit (.pair (.ro [(10000000, 0)]) .lit)))⟩ 0 0]⟩ (.pair .bool .unit) .lit)
/-- spec.StateValid -/
noncomputable def spec_StateValid (a0 : impl_State) : Option (Bool × Unit) := lim (.call 79 [⟨Y_impl_State, a0, (.pair .lit (.pair (.ro [(10000000, 0)]) (.pair (.ro [(10000000, 0)]) .lit)))⟩] (.pair .bool .unit) .lit)
noncomputable def spec_StateValid_4 (x3 : Int) (s0 : impl_State) : Option (Bool × Unit) := lim (.head 79 (cont 79 4) ⟨[(1, ⟨(.bx Y_impl_State), Ty.dflt (.bx Y_impl_State), (.ref 5000000)⟩), (3, ⟨(.int .i64), x3, .lit⟩)], [.live ⟨(.bx Y_impl_State), s0, (.own (.pair .lit (.pair (.ro [(10000000, 0)]) (.pair (.ro [(10000000, 0)]) .lit))))⟩ 0 0]⟩ (.pair .bool .unit) .lit)
/-- spec.ReplicaValid -/
noncomputable def spec_ReplicaValid (a0 : impl_Replica) : Option (Bool × Unit) := lim (.call 82 [⟨Y_impl_Replica, a0, (.pair (.pair .lit (.pair (.ro [(10000000, 0)]) .lit)) (.pair .lit (.pair (.ro [(10000000, 0)]) .lit)))⟩] (.pair .bool .unit) .lit)
/-- spec.EntryValid -/
noncomputable def spec_EntryValid (a0 : impl_Entry) : Option (Bool × Unit) := lim (.call 83 [⟨Y_impl_Entry, a0, .lit⟩] (.pair .bool .unit) .lit)
/-- laws.eqEntry -/
noncomputable def laws_eqEntry (a0 : impl_Entry) (a1 : impl_Entry) : Option (Bool × Unit) := lim (.call 114 [⟨Y_impl_Entry, a0, .lit⟩, ⟨Y_impl_Entry, a1, .lit⟩] (.pair .bool .unit) .lit)
/-- laws.eqEntryS -/
noncomputable def laws_eqEntryS (a0 : (List impl_Entry)) (a1 : (List impl_Entry)) : Option (Bool × Unit) := lim (.call 113 [⟨(.sl Y_impl_Entry), a0, (.ro [(10000000, 0)])⟩, ⟨(.sl Y_impl_Entry), a1, (.ro [(10000001, 0)])⟩] (.pair .bool .unit) .lit)
noncomputable def laws_eqEntryS_4 (x0 : (List impl_Entry)) (x1 : (List impl_Entry)) (x5 : Int) : Option (Bool × Unit) := lim (.head 113 (cont 113 4) ⟨[(0, ⟨(.sl Y_impl_Entry), x0, (.ro [(10000000, 0)])⟩), (1, ⟨(.sl Y_impl_Entry), x1, (.ro [(10000001, 0)])⟩), (5, ⟨(.int .i64), x5, .lit⟩)], []⟩ (.pair .bool .unit) .lit)
/-- laws.eqSession -/
noncomputable def laws_eqSession (a0 : impl_Session) (a1 : impl_Session) : Option (Bool × Unit) := lim (.call 96 [⟨Y_impl_Session, a0, .lit⟩, ⟨Y_impl_Session, a1, .lit⟩] (.pair .bool .unit) .lit)
/-- laws.eqPair -/
noncomputable def laws_eqPair (a0 : impl_Pair) (a1 : impl_Pair) : Option (Bool × Unit) := lim (.call 95 [⟨Y_impl_Pair, a0, .lit⟩, ⟨Y_impl_Pair, a1, .lit⟩] (.pair .bool .unit) .lit)
/-- laws.toEntry -/
noncomputable def laws_toEntry (a0 : laws_Entry) : Option (impl_Entry × Unit) := lim (.call 107 [⟨Y_laws_Entry, a0, .lit⟩] (.pair Y_impl_Entry .unit) .lit)
/-- laws.toEntryS -/
noncomputable def laws_toEntryS (a0 : (List laws_Entry)) : Option ((List impl_Entry) × Unit) := lim (.call 106 [⟨(.sl Y_laws_Entry), a0, (.ro [(10000000, 0)])⟩] (.pair (.sl Y_impl_Entry) .unit) (.pair (.own .lit) .lit))
noncomputable def laws_toEntryS_3 (x0 : (List laws_Entry)) (x4 : Int) (s0 : (List impl_Entry)) : Option ((List impl_Entry) × Unit) := lim (.head 106 (cont 106 3) ⟨[(0, ⟨(.sl Y_laws_Entry), x0, (.ro [(10000000, 0)])⟩), (3, ⟨(.sl Y_impl_Entry), Ty.dflt (.sl Y_impl_Entry), (.ref 5000000)⟩), (4, ⟨(.int .i64), x4, .lit⟩)], [.live ⟨(.sl Y_impl_Entry), s0, (.own .lit)⟩ 0 0]⟩ (.pair (.sl Y_impl_Entry) .unit) (.pair (.own .lit) .lit))
/-- laws.toSession -/
noncomputable def laws_toSession (a0 : laws_Session) : Option (impl_Session × Unit) := lim (.call 105 [⟨Y_laws_Session, a0, .lit⟩] (.pair Y_impl_Session .unit) .lit)
/-- laws.toPair -/
noncomputable def laws_toPair (a0 : laws_Pair) : Option (impl_Pair × Unit) := lim (.call 104 [⟨Y_laws_Pair, a0, .lit⟩] (.pair Y_impl_Pair .unit) .lit)
/-- impl.Pair,string] -/
noncomputable def slices_BinarySearchFunc_Pair_Pair_string (a0 : (List impl_Pair)) (a1 : ByteArray) (a2 : Unit) : Option ((Int × (Bool × Unit)) × Unit) := lim (.call 110 [⟨(.sl Y_impl_Pair), a0, (.ro [(10000000, 0)])⟩, ⟨.str, a1, .lit⟩, ⟨(.fn 111 .unit), a2, .lit⟩] (.pair (.tc (.int .i64) (.tc .bool .unit)) .unit) .lit)
noncomputable def slices_BinarySearchFunc_Pair_Pair_string_3 (x0 : (List impl_Pair)) (x1 : ByteArray) (x8 : Int) (x9 : Int) (x10 : Int) : Option ((Int × (Bool × Unit)) × Unit) := lim (.head 110 (cont 110 3) ⟨[(0, ⟨(.sl Y_impl_Pair), x0, (.ro [(10000000, 0)])⟩), (1, ⟨.str, x1, .lit⟩), (2, ⟨(.fn 111 .unit), (), .lit⟩), (8, ⟨(.int .i64), x8, .lit⟩), (9, ⟨(.int .i64), x9, .lit⟩), (10, ⟨(.int .i64), x10, .lit⟩)], []⟩ (.pair (.tc (.int .i64) (.tc .bool .unit)) .unit) .lit)
/-- impl.valueValid -/
noncomputable def impl_valueValid (a0 : Int) : Option (Bool × Unit) := lim (.call 109 [⟨(.int .i64), a0, .lit⟩] (.pair .bool .unit) .lit)
/-- impl.KeyValid -/
noncomputable def impl_KeyValid (a0 : ByteArray) : Option (Bool × Unit) := lim (.call 108 [⟨.str, a0, .lit⟩] (.pair .bool .unit) .lit)
/-- impl.copyState -/
noncomputable def impl_copyState (a0 : impl_State) : Option (impl_State × Unit) := lim (.call 93 [⟨Y_impl_State, a0, (.pair .lit (.pair (.ro [(10000000, 0)]) (.pair (.ro [(10000000, 0)]) .lit)))⟩] (.pair Y_impl_State .unit) (.pair (.pair .lit (.pair (.own .lit) (.pair (.own .lit) .lit))) .lit))
/-- impl.entriesValid -/
noncomputable def impl_entriesValid (a0 : (List impl_Entry)) : Option (Bool × Unit) := lim (.call 92 [⟨(.sl Y_impl_Entry), a0, (.ro [(10000000, 0)])⟩] (.pair .bool .unit) .lit)
noncomputable def impl_entriesValid_4 (x8 : (List impl_Entry)) (x9 : Int) (x10 : Int) : Option (Bool × Unit) := lim (.head 92 (cont 92 4) ⟨[(8, ⟨(.sl Y_impl_Entry), x8, (.ro [(10000000, 0)])⟩), (9, ⟨(.int .i64), x9, .lit⟩), (10, ⟨(.int .i64), x10, .lit⟩)], []⟩ (.pair .bool .unit) .lit)
/-- impl.ApplyEntry -/
noncomputable def impl_ApplyEntry (a0 : impl_State) (a1 : impl_Entry) : Option ((impl_State × (Int × Unit)) × Unit) := lim (.call 94 [⟨Y_impl_State, a0, (.pair .lit (.pair (.ro [(10000000, 0)]) (.pair (.ro [(10000000, 0)]) .lit)))⟩, ⟨Y_impl_Entry, a1, .lit⟩] (.pair (.tc Y_impl_State (.tc (.int .i64) .unit)) .unit) (.pair (.pair (.pair .lit (.pair (.own .lit) (.pair (.own .lit) .lit))) .lit) .lit))
/-- spec.KeyValid -/
noncomputable def spec_KeyValid (a0 : ByteArray) : Option (Bool × Unit) := lim (.call 103 [⟨.str, a0, .lit⟩] (.pair .bool .unit) .lit)
noncomputable def spec_KeyValid_4 (x0 : ByteArray) (x3 : Int) : Option (Bool × Unit) := lim (.head 103 (cont 103 4) ⟨[(0, ⟨.str, x0, .lit⟩), (3, ⟨(.int .i64), x3, .lit⟩)], []⟩ (.pair .bool .unit) .lit)
/-- spec.l10Copy -/
noncomputable def spec_l10Copy (a0 : impl_State) : Option (impl_State × Unit) := lim (.call 90 [⟨Y_impl_State, a0, (.pair .lit (.pair (.ro [(10000000, 0)]) (.pair (.ro [(10000000, 0)]) .lit)))⟩] (.pair Y_impl_State .unit) (.pair (.pair .lit (.pair (.own .lit) (.pair (.own .lit) .lit))) .lit))
/-- spec.l10Log -/
noncomputable def spec_l10Log (a0 : (List impl_Entry)) : Option (Bool × Unit) := lim (.call 89 [⟨(.sl Y_impl_Entry), a0, (.ro [(10000000, 0)])⟩] (.pair .bool .unit) .lit)
noncomputable def spec_l10Log_2 (x0 : (List impl_Entry)) (x3 : Int) : Option (Bool × Unit) := lim (.head 89 (cont 89 2) ⟨[(0, ⟨(.sl Y_impl_Entry), x0, (.ro [(10000000, 0)])⟩), (3, ⟨(.int .i64), x3, .lit⟩)], []⟩ (.pair .bool .unit) .lit)
/-- spec.ApplyEntry -/
noncomputable def spec_ApplyEntry (a0 : impl_State) (a1 : impl_Entry) : Option ((impl_State × (Int × Unit)) × Unit) := lim (.call 91 [⟨Y_impl_State, a0, (.pair .lit (.pair (.ro [(10000000, 0)]) (.pair (.ro [(10000000, 0)]) .lit)))⟩, ⟨Y_impl_Entry, a1, .lit⟩] (.pair (.tc Y_impl_State (.tc (.int .i64) .unit)) .unit) (.pair (.pair (.pair .lit (.pair (.own .lit) (.pair (.own .lit) .lit))) .lit) .lit))
noncomputable def spec_ApplyEntry_15 (x11 : Bool) (s0 : impl_State) (s1 : impl_Entry) (s2 : impl_State) (s3 : impl_State) (s4 : (List impl_Pair)) (s5 : (List impl_Session)) (s6 : (List impl_Pair)) (s7 : (List impl_Session)) : Option ((impl_State × (Int × Unit)) × Unit) := lim (.head 91 (cont 91 15) ⟨[(2, ⟨(.bx Y_impl_State), Ty.dflt (.bx Y_impl_State), (.ref 5000000)⟩), (3, ⟨(.bx Y_impl_Entry), Ty.dflt (.bx Y_impl_Entry), (.ref 5000001)⟩), (4, ⟨(.bx Y_impl_State), Ty.dflt (.bx Y_impl_State), (.ref 5000002)⟩), (6, ⟨(.bx Y_impl_State), Ty.dflt (.bx Y_impl_State), (.ref 5000003)⟩), (11, ⟨.bool, x11, .lit⟩)], [.live ⟨(.bx Y_impl_State), s0, (.own (.pair .lit (.pair (.ro [(10000000, 0)]) (.pair (.ro [(10000000, 0)]) .lit))))⟩ 0 0, .live ⟨(.bx Y_impl_Entry), s1, (.own .lit)⟩ 0 0, .live ⟨(.bx Y_impl_State), s2, (.own (.pair .lit (.pair (.ref 5000004) (.pair (.ref 5000005) .lit))))⟩ 0 0, .live ⟨(.bx Y_impl_State), s3, (.own (.pair .lit (.pair (.ref 5000006) (.pair (.ref 5000007) .lit))))⟩ 0 0, .live ⟨(.sl Y_impl_Pair), s4, (.own .lit)⟩ 0 0, .live ⟨(.sl Y_impl_Session), s5, (.own .lit)⟩ 0 0, .live ⟨(.sl Y_impl_Pair), s6, (.own .lit)⟩ 0 0, .live ⟨(.sl Y_impl_Session), s7, (.own .lit)⟩ 0 0]⟩ (.pair (.tc Y_impl_State (.tc (.int .i64) .unit)) .unit) (.pair (.pair (.pair .lit (.pair (.own .lit) (.pair (.own .lit) .lit))) .lit) .lit))
noncomputable def spec_ApplyEntry_16 (x11 : Bool) (x12 : Int) (s0 : impl_State) (s1 : impl_Entry) (s2 : impl_State) (s3 : impl_State) (s4 : (List impl_Pair)) (s5 : (List impl_Session)) (s6 : (List impl_Pair)) (s7 : (List impl_Session)) : Option ((impl_State × (Int × Unit)) × Unit) := lim (.head 91 (cont 91 16) ⟨[(2, ⟨(.bx Y_impl_State), Ty.dflt (.bx Y_impl_State), (.ref 5000000)⟩), (3, ⟨(.bx Y_impl_Entry), Ty.dflt (.bx Y_impl_Entry), (.ref 5000001)⟩), (4, ⟨(.bx Y_impl_State), Ty.dflt (.bx Y_impl_State), (.ref 5000002)⟩), (6, ⟨(.bx Y_impl_State), Ty.dflt (.bx Y_impl_State), (.ref 5000003)⟩), (11, ⟨.bool, x11, .lit⟩), (12, ⟨(.int .i64), x12, .lit⟩)], [.live ⟨(.bx Y_impl_State), s0, (.own (.pair .lit (.pair (.ro [(10000000, 0)]) (.pair (.ro [(10000000, 0)]) .lit))))⟩ 0 0, .live ⟨(.bx Y_impl_Entry), s1, (.own .lit)⟩ 0 0, .live ⟨(.bx Y_impl_State), s2, (.own (.pair .lit (.pair (.ref 5000004) (.pair (.ref 5000005) .lit))))⟩ 0 0, .live ⟨(.bx Y_impl_State), s3, (.own (.pair .lit (.pair (.ref 5000006) (.pair (.ref 5000007) .lit))))⟩ 0 0, .live ⟨(.sl Y_impl_Pair), s4, (.own .lit)⟩ 0 0, .live ⟨(.sl Y_impl_Session), s5, (.own .lit)⟩ 0 0, .live ⟨(.sl Y_impl_Pair), s6, (.own .lit)⟩ 0 0, .live ⟨(.sl Y_impl_Session), s7, (.own .lit)⟩ 0 0]⟩ (.pair (.tc Y_impl_State (.tc (.int .i64) .unit)) .unit) (.pair (.pair (.pair .lit (.pair (.own .lit) (.pair (.own .lit) .lit))) .lit) .lit))
/-- laws.szEntry -/
noncomputable def laws_szEntry (a0 : laws_Entry) (a1 : Int) : Option (Int × Unit) := lim (.call 102 [⟨Y_laws_Entry, a0, .lit⟩, ⟨(.int .i64), a1, .lit⟩] (.pair (.int .i64) .unit) .lit)
/-- laws.szEntryS -/
noncomputable def laws_szEntryS (a0 : (List laws_Entry)) (a1 : Int) : Option (Int × Unit) := lim (.call 101 [⟨(.sl Y_laws_Entry), a0, (.ro [(10000000, 0)])⟩, ⟨(.int .i64), a1, .lit⟩] (.pair (.int .i64) .unit) .lit)
noncomputable def laws_szEntryS_5 (x0 : (List laws_Entry)) (x1 : Int) (x5 : Int) : Option (Int × Unit) := lim (.head 101 (cont 101 5) ⟨[(0, ⟨(.sl Y_laws_Entry), x0, (.ro [(10000000, 0)])⟩), (1, ⟨(.int .i64), x1, .lit⟩), (5, ⟨(.int .i64), x5, .lit⟩)], []⟩ (.pair (.int .i64) .unit) .lit)
/-- laws.szPair -/
noncomputable def laws_szPair (a0 : laws_Pair) (a1 : Int) : Option (Int × Unit) := lim (.call 100 [⟨Y_laws_Pair, a0, .lit⟩, ⟨(.int .i64), a1, .lit⟩] (.pair (.int .i64) .unit) .lit)
/-- impl.MessageValid -/
noncomputable def impl_MessageValid (a0 : impl_Message) : Option (Bool × Unit) := lim (.call 128 [⟨Y_impl_Message, a0, (.pair .lit (.pair .lit (.pair .lit (.pair (.pair .lit (.pair (.ro [(10000000, 0)]) .lit)) (.pair (.ro [(10000000, 0)]) .lit)))))⟩] (.pair .bool .unit) .lit)
/-- slices.Contains[[]int,int] -/
noncomputable def slices_Contains_sint_int (a0 : (List Int)) (a1 : Int) : Option (Bool × Unit) := lim (.call 127 [⟨(.sl (.int .i64)), a0, (.ro [(10000000, 0)])⟩, ⟨(.int .i64), a1, .lit⟩] (.pair .bool .unit) .lit)
/-- impl.nodeValid -/
noncomputable def impl_nodeValid (a0 : Int) : Option (Bool × Unit) := lim (.call 126 [⟨(.int .i64), a0, .lit⟩] (.pair .bool .unit) .lit)
/-- impl.SessionsValid -/
noncomputable def impl_SessionsValid (a0 : (List impl_Session)) : Option (Bool × Unit) := lim (.call 123 [⟨(.sl Y_impl_Session), a0, (.ro [(10000000, 0)])⟩] (.pair .bool .unit) .lit)
noncomputable def impl_SessionsValid_2 (x0 : (List impl_Session)) (x5 : (List impl_Session)) (x6 : Int) (x7 : Int) : Option (Bool × Unit) := lim (.head 123 (cont 123 2) ⟨[(0, ⟨(.sl Y_impl_Session), x0, (.ro [(10000000, 0)])⟩), (5, ⟨(.sl Y_impl_Session), x5, (.ro [(10000000, 0)])⟩), (6, ⟨(.int .i64), x6, .lit⟩), (7, ⟨(.int .i64), x7, .lit⟩)], []⟩ (.pair .bool .unit) .lit)
/-- impl.IntervalValid -/
noncomputable def impl_IntervalValid (a0 : impl_Interval) : Option (Bool × Unit) := lim (.call 122 [⟨Y_impl_Interval, a0, .lit⟩] (.pair .bool .unit) .lit)
/-- impl.inside -/
noncomputable def impl_inside (a0 : impl_Interval) (a1 : ByteArray) : Option (Bool × Unit) := lim (.call 124 [⟨Y_impl_Interval, a0, .lit⟩, ⟨.str, a1, .lit⟩] (.pair .bool .unit) .lit)
/-- impl.IntervalCut -/
noncomputable def impl_IntervalCut (a0 : impl_Interval) (a1 : ByteArray) : Option ((impl_Interval × (impl_Interval × (Bool × Unit))) × Unit) := lim (.call 125 [⟨Y_impl_Interval, a0, .lit⟩, ⟨.str, a1, .lit⟩] (.pair (.tc Y_impl_Interval (.tc Y_impl_Interval (.tc .bool .unit))) .unit) .lit)
/-- impl.noConfig -/
noncomputable def impl_noConfig (a0 : impl_Config) : Option (Bool × Unit) := lim (.call 129 [⟨Y_impl_Config, a0, (.pair .lit (.pair (.ro [(10000000, 0)]) .lit))⟩] (.pair .bool .unit) .lit)
/-- impl.EntryValid -/
noncomputable def impl_EntryValid (a0 : impl_Entry) : Option (Bool × Unit) := lim (.call 130 [⟨Y_impl_Entry, a0, .lit⟩] (.pair .bool .unit) .lit)
/-- spec.MessageValid -/
noncomputable def spec_MessageValid (a0 : impl_Message) : Option (Bool × Unit) := lim (.call 119 [⟨Y_impl_Message, a0, (.pair .lit (.pair .lit (.pair .lit (.pair (.pair .lit (.pair (.ro [(10000000, 0)]) .lit)) (.pair (.ro [(10000000, 0)]) .lit)))))⟩] (.pair .bool .unit) .lit)
/-- spec.SessionsValid -/
noncomputable def spec_SessionsValid (a0 : (List impl_Session)) : Option (Bool × Unit) := lim (.call 116 [⟨(.sl Y_impl_Session), a0, (.ro [(10000000, 0)])⟩] (.pair .bool .unit) .lit)
noncomputable def spec_SessionsValid_2 (x0 : (List impl_Session)) (x3 : Int) : Option (Bool × Unit) := lim (.head 116 (cont 116 2) ⟨[(0, ⟨(.sl Y_impl_Session), x0, (.ro [(10000000, 0)])⟩), (3, ⟨(.int .i64), x3, .lit⟩)], []⟩ (.pair .bool .unit) .lit)
/-- spec.IntervalValid -/
noncomputable def spec_IntervalValid (a0 : impl_Interval) : Option (Bool × Unit) := lim (.call 115 [⟨Y_impl_Interval, a0, .lit⟩] (.pair .bool .unit) .lit)
/-- spec.IntervalHas -/
noncomputable def spec_IntervalHas (a0 : impl_Interval) (a1 : ByteArray) : Option (Bool × Unit) := lim (.call 117 [⟨Y_impl_Interval, a0, .lit⟩, ⟨.str, a1, .lit⟩] (.pair .bool .unit) .lit)
/-- spec.IntervalCut -/
noncomputable def spec_IntervalCut (a0 : impl_Interval) (a1 : ByteArray) : Option ((impl_Interval × (impl_Interval × (Bool × Unit))) × Unit) := lim (.call 118 [⟨Y_impl_Interval, a0, .lit⟩, ⟨.str, a1, .lit⟩] (.pair (.tc Y_impl_Interval (.tc Y_impl_Interval (.tc .bool .unit))) .unit) .lit)
/-- spec.l17None -/
noncomputable def spec_l17None (a0 : impl_Config) : Option (Bool × Unit) := lim (.call 120 [⟨Y_impl_Config, a0, (.pair .lit (.pair (.ro [(10000000, 0)]) .lit))⟩] (.pair .bool .unit) .lit)
/-- spec.CommandValid -/
noncomputable def spec_CommandValid (a0 : impl_Command) : Option (Bool × Unit) := lim (.call 121 [⟨Y_impl_Command, a0, .lit⟩] (.pair .bool .unit) .lit)
/-- laws.eqCommand -/
noncomputable def laws_eqCommand (a0 : impl_Command) (a1 : impl_Command) : Option (Bool × Unit) := lim (.call 144 [⟨Y_impl_Command, a0, .lit⟩, ⟨Y_impl_Command, a1, .lit⟩] (.pair .bool .unit) .lit)
/-- laws.toCommand -/
noncomputable def laws_toCommand (a0 : laws_Command) : Option (impl_Command × Unit) := lim (.call 141 [⟨Y_laws_Command, a0, .lit⟩] (.pair Y_impl_Command .unit) .lit)
/-- impl.pairPlace$1 -/
noncomputable def impl_pairPlace_c1 (a0 : impl_Pair) (a1 : ByteArray) : Option (Int × Unit) := lim (.call 111 [⟨Y_impl_Pair, a0, .lit⟩, ⟨.str, a1, .lit⟩] (.pair (.int .i64) .unit) .lit)
/-- impl.lettersOnly -/
noncomputable def impl_lettersOnly (a0 : ByteArray) : Option (Bool × Unit) := lim (.call 142 [⟨.str, a0, .lit⟩] (.pair .bool .unit) .lit)
/-- impl.Session] -/
noncomputable def impl_copyOf_Session (a0 : (List impl_Session)) : Option ((List impl_Session) × Unit) := lim (.call 135 [⟨(.sl Y_impl_Session), a0, (.ro [(10000000, 0)])⟩] (.pair (.sl Y_impl_Session) .unit) (.pair (.own .lit) .lit))
/-- impl.Pair] -/
noncomputable def impl_copyOf_Pair (a0 : (List impl_Pair)) : Option ((List impl_Pair) × Unit) := lim (.call 134 [⟨(.sl Y_impl_Pair), a0, (.ro [(10000000, 0)])⟩] (.pair (.sl Y_impl_Pair) .unit) (.pair (.own .lit) .lit))
/-- impl.SessionPut -/
noncomputable def impl_SessionPut (a0 : (List impl_Session)) (a1 : impl_Session) : Option (((List impl_Session) × (Bool × Unit)) × Unit) := lim (.call 139 [⟨(.sl Y_impl_Session), a0, (.ro [(10000000, 0)])⟩, ⟨Y_impl_Session, a1, .lit⟩] (.pair (.tc (.sl Y_impl_Session) (.tc .bool .unit)) .unit) (.pair (.pair (.own .lit) .lit) .lit))
/-- impl.ApplyCommand -/
noncomputable def impl_ApplyCommand (a0 : (List impl_Pair)) (a1 : impl_Command) : Option (((List impl_Pair) × (Int × Unit)) × Unit) := lim (.call 138 [⟨(.sl Y_impl_Pair), a0, (.ro [(10000000, 0)])⟩, ⟨Y_impl_Command, a1, .lit⟩] (.pair (.tc (.sl Y_impl_Pair) (.tc (.int .i64) .unit)) .unit) (.pair (.pair (.own .lit) .lit) .lit))
/-- impl.stateTakes -/
noncomputable def impl_stateTakes (a0 : impl_State) (a1 : impl_Command) : Option (Bool × Unit) := lim (.call 137 [⟨Y_impl_State, a0, (.pair .lit (.pair (.ro [(10000000, 0)]) (.pair (.ro [(10000000, 0)]) .lit)))⟩, ⟨Y_impl_Command, a1, .lit⟩] (.pair .bool .unit) .lit)
/-- impl.sessionPlace -/
noncomputable def impl_sessionPlace (a0 : (List impl_Session)) (a1 : Int) : Option ((Int × (Bool × Unit)) × Unit) := lim (.call 136 [⟨(.sl Y_impl_Session), a0, (.ro [(10000000, 0)])⟩, ⟨(.int .i64), a1, .lit⟩] (.pair (.tc (.int .i64) (.tc .bool .unit)) .unit) .lit)
/-- spec.l9Find -/
noncomputable def spec_l9Find (a0 : (List impl_Session)) (a1 : Int) : Option (impl_Session × Unit) := lim (.call 131 [⟨(.sl Y_impl_Session), a0, (.ro [(10000000, 0)])⟩, ⟨(.int .i64), a1, .lit⟩] (.pair Y_impl_Session .unit) .lit)
noncomputable def spec_l9Find_2 (x0 : (List impl_Session)) (x1 : Int) (x5 : Int) (s0 : impl_Session) : Option (impl_Session × Unit) := lim (.head 131 (cont 131 2) ⟨[(0, ⟨(.sl Y_impl_Session), x0, (.ro [(10000000, 0)])⟩), (1, ⟨(.int .i64), x1, .lit⟩), (4, ⟨(.bx Y_impl_Session), Ty.dflt (.bx Y_impl_Session), (.ref 5000000)⟩), (5, ⟨(.int .i64), x5, .lit⟩)], [.live ⟨(.bx Y_impl_Session), s0, (.own .lit)⟩ 0 0]⟩ (.pair Y_impl_Session .unit) .lit)
/-- spec.SessionPut -/
noncomputable def spec_SessionPut (a0 : (List impl_Session)) (a1 : impl_Session) : Option (((List impl_Session) × (Bool × Unit)) × Unit) := lim (.call 133 [⟨(.sl Y_impl_Session), a0, (.ro [(10000000, 0)])⟩, ⟨Y_impl_Session, a1, .lit⟩] (.pair (.tc (.sl Y_impl_Session) (.tc .bool .unit)) .unit) (.pair (.pair (.own .lit) .lit) .lit))
noncomputable def spec_SessionPut_8 (x0 : (List impl_Session)) (x7 : Bool) (x8 : Int) (s0 : impl_Session) (s1 : (List impl_Session)) : Option (((List impl_Session) × (Bool × Unit)) × Unit) := lim (.head 133 (cont 133 8) ⟨[(0, ⟨(.sl Y_impl_Session), x0, (.ro [(10000000, 0)])⟩), (3, ⟨(.bx Y_impl_Session), Ty.dflt (.bx Y_impl_Session), (.ref 5000000)⟩), (6, ⟨(.sl Y_impl_Session), Ty.dflt (.sl Y_impl_Session), (.ref 5000001)⟩), (7, ⟨.bool, x7, .lit⟩), (8, ⟨(.int .i64), x8, .lit⟩)], [.live ⟨(.bx Y_impl_Session), s0, (.own .lit)⟩ 0 0, .live ⟨(.sl Y_impl_Session), s1, (.own .lit)⟩ 0 0]⟩ (.pair (.tc (.sl Y_impl_Session) (.tc .bool .unit)) .unit) (.pair (.pair (.own .lit) .lit) .lit))
noncomputable def spec_SessionPut_13 (x0 : (List impl_Session)) (x7 : Bool) (x8 : Int) (s0 : impl_Session) (s1 : (List impl_Session)) : Option (((List impl_Session) × (Bool × Unit)) × Unit) := lim (.head 133 (cont 133 13) ⟨[(0, ⟨(.sl Y_impl_Session), x0, (.ro [(10000000, 0)])⟩), (3, ⟨(.bx Y_impl_Session), Ty.dflt (.bx Y_impl_Session), (.ref 5000000)⟩), (6, ⟨(.sl Y_impl_Session), Ty.dflt (.sl Y_impl_Session), (.ref 5000001)⟩), (7, ⟨.bool, x7, .lit⟩), (8, ⟨(.int .i64), x8, .lit⟩)], [.live ⟨(.bx Y_impl_Session), s0, (.own .lit)⟩ 0 0, .live ⟨(.sl Y_impl_Session), s1, (.own .lit)⟩ 0 0]⟩ (.pair (.tc (.sl Y_impl_Session) (.tc .bool .unit)) .unit) (.pair (.pair (.own .lit) .lit) .lit))
/-- spec.ApplyCommand -/
noncomputable def spec_ApplyCommand (a0 : (List impl_Pair)) (a1 : impl_Command) : Option (((List impl_Pair) × (Int × Unit)) × Unit) := lim (.call 132 [⟨(.sl Y_impl_Pair), a0, (.ro [(10000000, 0)])⟩, ⟨Y_impl_Command, a1, .lit⟩] (.pair (.tc (.sl Y_impl_Pair) (.tc (.int .i64) .unit)) .unit) (.pair (.pair (.own .lit) .lit) .lit))
/-- laws.szCommand -/
noncomputable def laws_szCommand (a0 : laws_Command) (a1 : Int) : Option (Int × Unit) := lim (.call 140 [⟨Y_laws_Command, a0, .lit⟩, ⟨(.int .i64), a1, .lit⟩] (.pair (.int .i64) .unit) .lit)
/-- slices.Index[[]int,int] -/
noncomputable def slices_Index_sint_int (a0 : (List Int)) (a1 : Int) : Option (Int × Unit) := lim (.call 147 [⟨(.sl (.int .i64)), a0, (.ro [(10000000, 0)])⟩, ⟨(.int .i64), a1, .lit⟩] (.pair (.int .i64) .unit) .lit)
noncomputable def slices_Index_sint_int_2 (x0 : (List Int)) (x1 : Int) (x7 : Int) (x8 : Int) : Option (Int × Unit) := lim (.head 147 (cont 147 2) ⟨[(0, ⟨(.sl (.int .i64)), x0, (.ro [(10000000, 0)])⟩), (1, ⟨(.int .i64), x1, .lit⟩), (7, ⟨(.int .i64), x7, .lit⟩), (8, ⟨(.int .i64), x8, .lit⟩)], []⟩ (.pair (.int .i64) .unit) .lit)
/-- impl.seqValid -/
noncomputable def impl_seqValid (a0 : Int) : Option (Bool × Unit) := lim (.call 146 [⟨(.int .i64), a0, .lit⟩] (.pair .bool .unit) .lit)
/-- impl.lowestKey -/
noncomputable def impl_lowestKey (a0 : impl_Interval) : Option (ByteArray × Unit) := lim (.call 145 [⟨Y_impl_Interval, a0, .lit⟩] (.pair .str .unit) .lit)
/-- impl.CommandValid -/
noncomputable def impl_CommandValid (a0 : impl_Command) : Option (Bool × Unit) := lim (.call 148 [⟨Y_impl_Command, a0, .lit⟩] (.pair .bool .unit) .lit)
/-- cmp.Compare[string] -/
noncomputable def cmp_Compare_string (a0 : ByteArray) (a1 : ByteArray) : Option (Int × Unit) := lim (.call 112 [⟨.str, a0, .lit⟩, ⟨.str, a1, .lit⟩] (.pair (.int .i64) .unit) .lit)
/-- impl.Session] -/
noncomputable def impl_replaced_Session (a0 : (List impl_Session)) (a1 : Int) (a2 : Int) (a3 : (List impl_Session)) : Option ((List impl_Session) × Unit) := lim (.call 157 [⟨(.sl Y_impl_Session), a0, (.ro [(10000000, 0)])⟩, ⟨(.int .i64), a1, .lit⟩, ⟨(.int .i64), a2, .lit⟩, ⟨(.sl Y_impl_Session), a3, (.ro [(10000003, 0)])⟩] (.pair (.sl Y_impl_Session) .unit) (.pair (.own .lit) .lit))
/-- impl.PairDrop -/
noncomputable def impl_PairDrop (a0 : (List impl_Pair)) (a1 : ByteArray) : Option (((List impl_Pair) × (Bool × Unit)) × Unit) := lim (.call 155 [⟨(.sl Y_impl_Pair), a0, (.ro [(10000000, 0)])⟩, ⟨.str, a1, .lit⟩] (.pair (.tc (.sl Y_impl_Pair) (.tc .bool .unit)) .unit) (.pair (.pair (.own .lit) .lit) .lit))
/-- impl.PairPut -/
noncomputable def impl_PairPut (a0 : (List impl_Pair)) (a1 : ByteArray) (a2 : Int) : Option (((List impl_Pair) × (Bool × Unit)) × Unit) := lim (.call 156 [⟨(.sl Y_impl_Pair), a0, (.ro [(10000000, 0)])⟩, ⟨.str, a1, .lit⟩, ⟨(.int .i64), a2, .lit⟩] (.pair (.tc (.sl Y_impl_Pair) (.tc .bool .unit)) .unit) (.pair (.pair (.own .lit) .lit) .lit))
/-- impl.Session,int] -/
noncomputable def slices_BinarySearchFunc_Session_Session_int (a0 : (List impl_Session)) (a1 : Int) (a2 : Unit) : Option ((Int × (Bool × Unit)) × Unit) := lim (.call 152 [⟨(.sl Y_impl_Session), a0, (.ro [(10000000, 0)])⟩, ⟨(.int .i64), a1, .lit⟩, ⟨(.fn 153 .unit), a2, .lit⟩] (.pair (.tc (.int .i64) (.tc .bool .unit)) .unit) .lit)
noncomputable def slices_BinarySearchFunc_Session_Session_int_3 (x0 : (List impl_Session)) (x1 : Int) (x8 : Int) (x9 : Int) (x10 : Int) : Option ((Int × (Bool × Unit)) × Unit) := lim (.head 152 (cont 152 3) ⟨[(0, ⟨(.sl Y_impl_Session), x0, (.ro [(10000000, 0)])⟩), (1, ⟨(.int .i64), x1, .lit⟩), (2, ⟨(.fn 153 .unit), (), .lit⟩), (8, ⟨(.int .i64), x8, .lit⟩), (9, ⟨(.int .i64), x9, .lit⟩), (10, ⟨(.int .i64), x10, .lit⟩)], []⟩ (.pair (.tc (.int .i64) (.tc .bool .unit)) .unit) .lit)
/-- spec.SessionSeq -/
noncomputable def spec_SessionSeq (a0 : (List impl_Session)) (a1 : Int) : Option (Int × Unit) := lim (.call 151 [⟨(.sl Y_impl_Session), a0, (.ro [(10000000, 0)])⟩, ⟨(.int .i64), a1, .lit⟩] (.pair (.int .i64) .unit) .lit)
/-- spec.PairDrop -/
noncomputable def spec_PairDrop (a0 : (List impl_Pair)) (a1 : ByteArray) : Option (((List impl_Pair) × (Bool × Unit)) × Unit) := lim (.call 149 [⟨(.sl Y_impl_Pair), a0, (.ro [(10000000, 0)])⟩, ⟨.str, a1, .lit⟩] (.pair (.tc (.sl Y_impl_Pair) (.tc .bool .unit)) .unit) (.pair (.pair (.own .lit) .lit) .lit))
/-- spec.PairPut -/
noncomputable def spec_PairPut (a0 : (List impl_Pair)) (a1 : ByteArray) (a2 : Int) : Option (((List impl_Pair) × (Bool × Unit)) × Unit) := lim (.call 150 [⟨(.sl Y_impl_Pair), a0, (.ro [(10000000, 0)])⟩, ⟨.str, a1, .lit⟩, ⟨(.int .i64), a2, .lit⟩] (.pair (.tc (.sl Y_impl_Pair) (.tc .bool .unit)) .unit) (.pair (.pair (.own .lit) .lit) .lit))
noncomputable def spec_PairPut_9 (x0 : (List impl_Pair)) (x1 : ByteArray) (x2 : Int) (x9 : Int) (s0 : (List impl_Pair)) : Option (((List impl_Pair) × (Bool × Unit)) × Unit) := lim (.head 150 (cont 150 9) ⟨[(0, ⟨(.sl Y_impl_Pair), x0, (.ro [(10000000, 0)])⟩), (1, ⟨.str, x1, .lit⟩), (2, ⟨(.int .i64), x2, .lit⟩), (8, ⟨(.sl Y_impl_Pair), Ty.dflt (.sl Y_impl_Pair), (.ref 5000000)⟩), (9, ⟨(.int .i64), x9, .lit⟩)], [.live ⟨(.sl Y_impl_Pair), s0, (.own .lit)⟩ 0 0]⟩ (.pair (.tc (.sl Y_impl_Pair) (.tc .bool .unit)) .unit) (.pair (.pair (.own .lit) .lit) .lit))
/-- cmp.isNaN[string] -/
noncomputable def cmp_isNaN_string (a0 : ByteArray) : Option (Bool × Unit) := lim (.call 143 [⟨.str, a0, .lit⟩] (.pair .bool .unit) .lit)
/-- impl.Pair] -/
noncomputable def impl_replaced_Pair (a0 : (List impl_Pair)) (a1 : Int) (a2 : Int) (a3 : (List impl_Pair)) : Option ((List impl_Pair) × Unit) := lim (.call 159 [⟨(.sl Y_impl_Pair), a0, (.ro [(10000000, 0)])⟩, ⟨(.int .i64), a1, .lit⟩, ⟨(.int .i64), a2, .lit⟩, ⟨(.sl Y_impl_Pair), a3, (.ro [(10000003, 0)])⟩] (.pair (.sl Y_impl_Pair) .unit) (.pair (.own .lit) .lit))
/-- impl.sessionPlace$1 -/
noncomputable def impl_sessionPlace_c1 (a0 : impl_Session) (a1 : Int) : Option (Int × Unit) := lim (.call 153 [⟨Y_impl_Session, a0, .lit⟩, ⟨(.int .i64), a1, .lit⟩] (.pair (.int .i64) .unit) .lit)
/-- cmp.Compare[int] -/
noncomputable def cmp_Compare_int (a0 : Int) (a1 : Int) : Option (Int × Unit) := lim (.call 154 [⟨(.int .i64), a0, .lit⟩, ⟨(.int .i64), a1, .lit⟩] (.pair (.int .i64) .unit) .lit)
/-- cmp.isNaN[int] -/
noncomputable def cmp_isNaN_int (a0 : Int) : Option (Bool × Unit) := lim (.call 158 [⟨(.int .i64), a0, .lit⟩] (.pair .bool .unit) .lit)
end Go.Proofs.YtpdmjnejnplhnaaGreat.Ev
