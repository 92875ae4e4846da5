/- alive: the two keys' ranks that every law asks at its end. No condition. -/
import Derived.Test.YtlffjoabajdfnaaGreatPuB
set_option linter.unusedVariables false
set_option linter.unusedSimpArgs false
namespace Go.Proofs.YtlffjoabajdfnaaGreat.Ev
open Go.Proofs.YtlffjoabajdfnaaGreat.Eng
open Go.RowKit (wrap64)
theorem keysFrom4 : impl_keysFrom 4 = some (1, ()) := by rw [impl_keysFrom_eq, cond_dec, if_pos (by omega)]
theorem keysFrom3 : impl_keysFrom 3 = some (27, ()) := by rw [impl_keysFrom_eq, cond_dec, if_neg (by omega), w64 (n := 3 + 1) (by omega) (by omega), show (3 : Int) + 1 = 4 from rfl, keysFrom4]; rfl
theorem keysFrom2 : impl_keysFrom 2 = some (703, ()) := by rw [impl_keysFrom_eq, cond_dec, if_neg (by omega), w64 (n := 2 + 1) (by omega) (by omega), show (2 : Int) + 1 = 3 from rfl, keysFrom3]; rfl
theorem keysFrom1 : impl_keysFrom 1 = some (18279, ()) := by rw [impl_keysFrom_eq, cond_dec, if_neg (by omega), w64 (n := 1 + 1) (by omega) (by omega), show (1 : Int) + 1 = 2 from rfl, keysFrom2]; rfl
theorem rank_es (n : Int) : impl_rankBelow es n = some (0, ()) := by rw [impl_rankBelow_eq, sEq_dec, decide_eq_true rfl]; rfl
theorem rank_a : impl_rankBelow (lit [97]) 2 = some (1, ()) := by
  rw [impl_rankBelow_eq, keysFrom2]
  have h1 : sEq (lit [97]) es = false := by rw [sEq_dec]; decide
  have h2 : ByteArray.extract (lit [97]) (Int.toNat 1) (Int.toNat ((lit [97]).size : Int)) = es := by decide
  rw [h1, h2, w64 (n := 2 + 1) (by omega) (by omega), rank_es]
  decide
theorem rank_aa : impl_rankBelow (lit [97, 97]) 1 = some (2, ()) := by
  rw [impl_rankBelow_eq, keysFrom1]
  have h1 : sEq (lit [97, 97]) es = false := by rw [sEq_dec]; decide
  have h2 : ByteArray.extract (lit [97, 97]) (Int.toNat 1) (Int.toNat ((lit [97, 97]).size : Int)) = lit [97] := by decide
  rw [h1, h2, w64 (n := 1 + 1) (by omega) (by omega), show (1 : Int) + 1 = 2 from rfl, rank_a]
  decide
theorem alive_f : laws_alive = some (true, ()) := by
  have h1 : keyOk (lit [97, 97]) = true := by decide
  have h2 : keyOk es = false := by decide
  rw [laws_alive_eq, impl_KeyRank_eq, impl_KeyRank_eq, impl_KeyValid_f, impl_KeyValid_f, h1, h2, rank_aa]
  decide
end Go.Proofs.YtlffjoabajdfnaaGreat.Ev
