/- Contracts of values: Parse. -/
import Derived.Test.YtfldmejjepakeaaVal8
namespace Go.Proofs.Ytfldmejjepakeaa
open Go.ChangeShapes Go.WideShapes Go.ChangeAt Go.RowKit
open Go.ChangeMaps (open_string shut_string)
set_option linter.unusedVariables false
set_option linter.unusedSimpArgs false
set_option maxRecDepth 100000

/-- What is between two places. -/
theorem str_extract (l : List UInt8) (i j : Nat) : (str l).extract i j = str ((l.take j).drop i) := by
  apply ByteArray.ext
  rw [ByteArray.data_extract]
  apply Array.toList_inj.1
  simp [str, List.extract_eq_take_drop, List.drop_take]
/-- A number's word, back. -/
def sgnV (x : Int) : Int := wrap64 (bits .xor .u64 x 9223372036854775808)

/-- A key's table, value (kind, number, text), as they are read; whether they are a key's. -/
def pkK (z : UInt8) : Int := if z = 0 then 1 else 2
def pkN (mid : List UInt8) (z : UInt8) : Int := if z = 0 then sgnV (numB mid) else 0
def pkS (mid : List UInt8) (z : UInt8) : List UInt8 := if z = 0 then [] else mid.take (min z.toNat 9 - 1)
def pkOk (a : UInt8) (mid : List UInt8) (z : UInt8) : Bool := tabB a.toNat && mayV (pkK z) (pkN mid z) (pkS mid z) && (keyB a.toNat (pkK z) (pkN mid z) (pkS mid z) == a :: (mid ++ [z]))
theorem pkOk_key (a : UInt8) (mid : List UInt8) (z : UInt8) : pkOk a mid z = ((keyE a.toNat (pkK z) (pkN mid z) (pkS mid z) == 0) && (keyT a.toNat (pkK z) (pkN mid z) (pkS mid z) == a :: (mid ++ [z]))) := by
  unfold pkOk keyE keyT
  cases tabB a.toNat <;> cases mayV (pkK z) (pkN mid z) (pkS mid z) <;> simp

theorem key_at0 (a z : UInt8) (mid : List UInt8) (h : mid.length = 8) (p : 0 < (str (a :: (mid ++ [z]))).size) : (str (a :: (mid ++ [z])))[0]'p = a := by
  show (str (a :: (mid ++ [z]))).data[0] = a
  simp [str]
theorem key_at9 (a z : UInt8) (mid : List UInt8) (h : mid.length = 8) (p : 9 < (str (a :: (mid ++ [z]))).size) : (str (a :: (mid ++ [z])))[9]'p = z := by
  show (str (a :: (mid ++ [z]))).data[9] = z
  simp [str, h]
theorem key_cut (a z : UInt8) (mid : List UInt8) (h : mid.length = 8) (j : Nat) (hj : j ≤ 9) : (str (a :: (mid ++ [z]))).extract 1 j = str (mid.take (j - 1)) := by
  rw [str_extract]
  congr 1
  cases j with
  | zero => simp
  | succ j => rw [List.take_succ_cons, List.drop_succ_cons, List.drop_zero, List.take_append_of_le_length (by omega)]; rfl
theorem numB_lt64 (l : List UInt8) (h : l.length = 8) : numB l < 18446744073709551616 := by
  have := numB_lt l
  rw [h] at this
  exact this

/-- What is told of a key: table, kind, number, text, error. -/
def pkRet (ok : Bool) (a : UInt8) (k n : Int) (s : List UInt8) : Ending := .returned (.tuple (if ok then #[.int .i64 a.toNat, .agg #[.int .i64 k, .int .i64 n, .string (str s)], .int .i64 0] else #[.int .i64 0, .agg #[.int .i64 0, .int .i64 0, .string (str [])], .int .i64 2]))

end Go.Proofs.Ytfldmejjepakeaa
