/- Plain arithmetic of checksums. -/
namespace Go.Proofs.YtfoehgcamkmooaaDoor.SumsP
/-- The number of the first two bytes. -/
def pairN : List UInt8 → Nat
  | [] => 0
  | [x] => x.toNat * 256
  | x :: y :: _ => x.toNat * 256 + y.toNat
/-- All numbers of bytes. -/
def total : List UInt8 → Nat
  | [] => 0
  | [x] => x.toNat * 256
  | x :: y :: l => x.toNat * 256 + y.toNat + total l
theorem pairN_le (l : List UInt8) : pairN l ≤ 65535 := by
  match l with
  | [] => simp [pairN]
  | [x] => have := x.toNat_lt; simp only [pairN]; omega
  | x :: y :: _ => have := x.toNat_lt; have := y.toNat_lt; simp only [pairN]; omega
theorem total_step (l : List UInt8) (k : Nat) : total (l.drop (2 * k)) = pairN (l.drop (2 * k)) + total (l.drop (2 * (k + 1))) := by
  rw [show 2 * (k + 1) = 2 * k + 2 by omega, ← List.drop_drop]
  match l.drop (2 * k) with
  | [] => rfl
  | [x] => simp [total, pairN]
  | x :: y :: m => simp [total, pairN]
theorem pairN_take (l : List UInt8) : pairN (l.take 2) = pairN l := by
  match l with
  | [] => rfl
  | [x] => rfl
  | x :: y :: m => rfl
/-- The numbers that have come in k rounds. -/
def upTo (l : List UInt8) (k : Nat) : Nat := total l - total (l.drop (2 * k))
theorem total_ge (l : List UInt8) (k : Nat) : total (l.drop (2 * k)) ≤ total l := by
  induction k with
  | zero => simp
  | succ k ih => have := total_step l k; omega
theorem upTo_zero (l : List UInt8) : upTo l 0 = 0 := by simp [upTo]
theorem upTo_succ (l : List UInt8) (k : Nat) : upTo l (k + 1) = upTo l k + pairN (l.drop (2 * k)) := by
  have h1 := total_step l k
  have h2 := total_ge l (k + 1)
  have h3 := total_ge l k
  unfold upTo; omega
theorem upTo_all (l : List UInt8) (k : Nat) (h : l.length ≤ 2 * k) : upTo l k = total l := by
  unfold upTo
  rw [List.drop_of_length_le h]
  simp [total]
theorem total_le (l : List UInt8) : total l ≤ 65535 * l.length := by
  match l with
  | [] => simp [total]
  | [x] => have := x.toNat_lt; simp only [total, List.length_cons, List.length_nil]; omega
  | x :: y :: m => have := total_le m; have := x.toNat_lt; have := y.toNat_lt; simp only [total, List.length_cons]; omega
/-- The folded sum. -/
def foldN (n : Int) : Int := if n ≤ 0 then 0 else (n - 1) % 65535 + 1
theorem foldN_small (n : Int) (h0 : 0 ≤ n) (h : n ≤ 65535) : foldN n = n := by unfold foldN; split <;> omega
theorem foldN_step (n : Int) (h : 65535 < n) : foldN (n / 65536 + n % 65536) = foldN n := by unfold foldN; split <;> split <;> omega
theorem foldN_range (n : Int) : 0 ≤ foldN n ∧ foldN n ≤ 65535 := by unfold foldN; split <;> omega
end Go.Proofs.YtfoehgcamkmooaaDoor.SumsP
