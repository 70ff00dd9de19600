/-
  The check sum, as the program reckons it: plain functions on whole numbers and bytes; what four bytes make, and back.
-/
import Derived.Test.YtjhpoahjmcoilaaStp2
set_option linter.unusedSimpArgs false
namespace Go.Stp
/-- What four bits make of a sum: i rounds. -/
def nib (s : Int) : Nat → Int
  | 0 => s
  | i + 1 => bits .xor .u32 ((nib s i).fdiv (2 ^ min (1 : Int).toNat IntKind.u32.bits)) (bits .and .u32 3988292384 (IntKind.u32.wrap (0 - bits .and .u32 (nib s i) 1)))
def tab (i : Nat) : Int := nib (IntKind.u32.wrap (i : Int)) 4
def half (s : Int) : Int := bits .xor .u32 (s.fdiv (2 ^ min (4 : Int).toNat IntKind.u32.bits)) (tab (bits .and .u32 s 15).toNat)
def crcStep (s : Int) (b : UInt8) : Int := half (half (bits .xor .u32 s (IntKind.u32.wrap (b.toNat : Int))))
def inv (s : Int) : Int := bits .xor .u32 (if IntKind.u32.signed then -1 else IntKind.u32.max) s
def crc (s : Int) (bs : List UInt8) : Int := inv (bs.foldl crcStep (inv s))
theorem wrap_u32 (x : Int) : 0 ≤ IntKind.u32.wrap x ∧ IntKind.u32.wrap x < 4294967296 := by
  have : IntKind.u32.wrap x = x % 4294967296 := by simp [IntKind.wrap, IntKind.bits, IntKind.signed]
  rw [this]; omega
theorem bits_range (op : BinOp) (p q : Int) : 0 ≤ bits op .u32 p q ∧ bits op .u32 p q < 4294967296 := by
  unfold bits; split <;> exact wrap_u32 _
theorem and15 (p : Int) : 0 ≤ bits .and .u32 p 15 ∧ bits .and .u32 p 15 < 16 := by
  refine ⟨(bits_range _ _ _).1, ?_⟩
  have h : (BitVec.ofInt IntKind.u32.bits p &&& BitVec.ofInt IntKind.u32.bits 15).toNat ≤ 15 := by
    rw [BitVec.toNat_and]
    exact Nat.le_trans Nat.and_le_right (by decide)
  have h2 : IntKind.u32.wrap ((BitVec.ofInt IntKind.u32.bits p &&& BitVec.ofInt IntKind.u32.bits 15).toNat : Int) = ((BitVec.ofInt IntKind.u32.bits p &&& BitVec.ofInt IntKind.u32.bits 15).toNat : Int) := by
    have : ∀ x : Int, IntKind.u32.wrap x = x % 4294967296 := fun x => by simp [IntKind.wrap, IntKind.bits, IntKind.signed]
    rw [this]; omega
  show IntKind.u32.wrap _ < 16
  rw [h2]; omega
theorem crc_range (s : Int) (bs : List UInt8) : 0 ≤ crc s bs ∧ crc s bs < 4294967296 := by
  unfold crc
  generalize bs.foldl crcStep (inv s) = x
  unfold inv
  exact bits_range _ _ _
/-- A number below 2^32 as four bytes, the highest first. -/
def put4 (n : Int) : List UInt8 := [UInt8.ofNat (n / 16777216).toNat, UInt8.ofNat (n / 65536 % 256).toNat, UInt8.ofNat (n / 256 % 256).toNat, UInt8.ofNat (n % 256).toNat]
def get4 (l : List UInt8) : Int := l.foldl (fun n b => n * 256 + b.toNat) 0
theorem get4_put4 (n : Int) (h0 : 0 ≤ n) (h : n < 4294967296) : get4 (put4 n) = n := by
  simp only [put4, get4, List.foldl_cons, List.foldl_nil, UInt8.toNat_ofNat']
  omega
theorem put4_length (n : Int) : (put4 n).length = 4 := rfl
end Go.Stp
