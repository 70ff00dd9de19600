/-
  Frames, the disk, the vault and its machine as plain functions on bytes.
-/
import Derived.Test.YtjhpoahjmcoilaaVCrc
set_option linter.unusedSimpArgs false
set_option linter.unusedVariables false
namespace Go.Stp
/-- A payload's sum; its frame. -/
def fsum (len p : List UInt8) : Int := crc (crc 0 len) p
def frame (p : List UInt8) : List UInt8 := put4 p.length ++ (put4 (fsum (put4 p.length) p) ++ p)
theorem frame_length (p : List UInt8) : (frame p).length = 8 + p.length := by simp [frame, put4_length]; omega
/-- What First tells: the payload and how many bytes, or an error. -/
def view (b : List UInt8) : List UInt8 × Nat × Int :=
  if b.length < 8 then ([], 0, 2)
  else if get4 (b.take 4) > 65536 then ([], 0, 4)
  else if b.length < 8 + (get4 (b.take 4)).toNat then ([], 0, 2)
  else if get4 ((b.drop 4).take 4) ≠ fsum (b.take 4) ((b.drop 8).take (get4 (b.take 4)).toNat) then ([], 0, 5)
  else ((b.drop 8).take (get4 (b.take 4)).toNat, 8 + (get4 (b.take 4)).toNat, 0)
theorem get4_nonneg (l : List UInt8) : 0 ≤ get4 l := by
  have : ∀ (l : List UInt8) (n : Int), 0 ≤ n → 0 ≤ l.foldl (fun n (b : UInt8) => n * 256 + (b.toNat : Int)) n := by
    intro l
    induction l with
    | nil => intro n h; exact h
    | cons b l ih => intro n h; exact ih (n * 256 + (b.toNat : Int)) (by omega)
  exact this l 0 (by omega)
theorem view_le (b : List UInt8) : (view b).2.1 ≤ b.length ∧ ((view b).2.2 = 0 → 8 ≤ (view b).2.1) := by
  unfold view
  split
  · simp
  · split
    · simp
    · split
      · simp
      · split
        · simp
        · simp; omega
/-- The payloads of the frames that stand there, and how many bytes they take. -/
def scan (b : List UInt8) : List (List UInt8) × Nat :=
  if h : (view b).2.2 = 0 then
    let r := scan (b.drop (view b).2.1)
    ((view b).1 :: r.1, (view b).2.1 + r.2)
  else ([], 0)
termination_by b.length
decreasing_by
  have h1 := view_le b
  have := h1.2 h
  simp
  omega
theorem view_frame (p rest : List UInt8) (hp : p.length ≤ 65536) : view (frame p ++ rest) = (p, 8 + p.length, 0) := by
  have hl : (frame p ++ rest).length = 8 + p.length + rest.length := by simp [frame_length]
  have h1 : (frame p ++ rest).take 4 = put4 p.length := by simp [frame, put4]
  have h2 : ((frame p ++ rest).drop 4).take 4 = put4 (fsum (put4 p.length) p) := by simp [frame, put4]
  have h3 : ((frame p ++ rest).drop 8).take p.length = p := by simp [frame, put4]
  have g1 : get4 (put4 (p.length : Int)) = p.length := get4_put4 _ (by omega) (by omega)
  have hr : 0 ≤ fsum (put4 p.length) p ∧ fsum (put4 p.length) p < 4294967296 := crc_range _ _
  have g2 : get4 (put4 (fsum (put4 p.length) p)) = fsum (put4 p.length) p := get4_put4 _ hr.1 hr.2
  unfold view
  rw [hl, h1, h2, g1, g2]
  simp only [Int.toNat_natCast]
  rw [h3, if_neg (by omega), if_neg (by omega), if_neg (by omega), if_neg (by simp)]
/-- A beginning of a frame, cut off: it is none. -/
theorem view_torn (p : List UInt8) (m : Nat) (hp : p.length ≤ 65536) (hm : m < 8 + p.length) : (view ((frame p).take m)).2.2 ≠ 0 := by
  have hl : ((frame p).take m).length = m := by simp [frame_length]; omega
  unfold view
  rw [hl]
  by_cases h8 : m < 8
  · rw [if_pos h8]; simp
  · rw [if_neg h8]
    have h1 : ((frame p).take m).take 4 = put4 p.length := by
      rw [List.take_take, show min 4 m = 4 by omega]
      simp [frame, put4]
    have g1 : get4 (put4 (p.length : Int)) = p.length := get4_put4 _ (by omega) (by omega)
    rw [h1, g1, if_neg (by omega)]
    simp only [Int.toNat_natCast]
    rw [if_pos hm]; simp
theorem scan_frames (ps : List (List UInt8)) (hp : ∀ p, p ∈ ps → p.length ≤ 65536) (t : List UInt8) (ht : (view t).2.2 ≠ 0) :
    scan ((ps.map frame).flatten ++ t) = (ps, (ps.map frame).flatten.length) := by
  induction ps with
  | nil => rw [scan]; simp [ht]
  | cons p ps ih =>
    have hv := view_frame p ((ps.map frame).flatten ++ t) (hp p (by simp))
    have hv' : view (((p :: ps).map frame).flatten ++ t) = (p, 8 + p.length, 0) := by simpa using hv
    rw [scan, hv']
    have hd : (((p :: ps).map frame).flatten ++ t).drop (8 + p.length) = (ps.map frame).flatten ++ t := by
      simp only [List.map_cons, List.flatten_cons, List.append_assoc]
      rw [List.drop_append, List.drop_eq_nil_of_le (by rw [frame_length]; omega), frame_length]
      simp
    simp only [dif_pos, hd]
    rw [ih fun q hq => hp q (by simp [hq])]
    simp [frame_length]
theorem view_nil : (view []).2.2 ≠ 0 := by simp [view]
end Go.Stp
