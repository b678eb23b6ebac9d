/- The plain mathematics of the rounds of SHA-256, on natural numbers: no program in sight. -/
import Derived.Test.YtfafidholldjlaaDoorProg
import Derived.WalkKit
import Derived.WalkSmall
import Derived.RangeFuncNested
import Derived.RangeFuncCalls
import Derived.RangeFuncLeaves
import Derived.OwnWalkIn
import Derived.TacticsInMore
import Derived.ChangeKeysEq
import Derived.Lib.Hide
import Derived.LaidEql
import Derived.Stop.Asserts
import Derived.RowKitTokens
import Derived.Deep.RegionHeld3
import Derived.Deep.DrawnRows
import Derived.BigQuiet
import Derived.Deep.QuietTactic
set_option linter.unusedVariables false
set_option linter.unusedSimpArgs false
namespace Sha
/-- A word, turned by k places. -/
def rr (x k : Nat) : Nat := x / 2 ^ k + x * 2 ^ (32 - k) % 4294967296
theorem rr_lt {x k : Nat} (hx : x < 4294967296) (hk : k ≤ 32) (hk1 : 1 ≤ k) : rr x k < 4294967296 := by
  unfold rr
  have h1 : x / 2 ^ k < 2 ^ (32 - k) := by
    rw [Nat.div_lt_iff_lt_mul (Nat.two_pow_pos k), ← Nat.pow_add, Nat.sub_add_cancel hk]; exact hx
  have h2 : x * 2 ^ (32 - k) % 4294967296 = 2 ^ (32 - k) * (x % 2 ^ k) := by
    have e : (4294967296 : Nat) = 2 ^ (32 - k) * 2 ^ k := by rw [← Nat.pow_add, Nat.sub_add_cancel hk]
    rw [e, Nat.mul_comm x, Nat.mul_mod_mul_left]
  rw [h2]
  have h3 : x % 2 ^ k + 1 ≤ 2 ^ k := Nat.mod_lt _ (Nat.two_pow_pos k)
  have h4 : 2 ^ (32 - k) * (x % 2 ^ k + 1) ≤ 2 ^ (32 - k) * 2 ^ k := Nat.mul_le_mul_left _ h3
  rw [← Nat.pow_add, Nat.sub_add_cancel hk, Nat.mul_add, Nat.mul_one] at h4
  have e32 : (2 : Nat) ^ 32 = 4294967296 := rfl
  omega
theorem rr_or {x k : Nat} (hx : x < 4294967296) (hk : k ≤ 32) : (x * 2 ^ (32 - k) % 4294967296) ||| (x / 2 ^ k) = rr x k := by
  unfold rr
  have h1 : x / 2 ^ k < 2 ^ (32 - k) := by
    rw [Nat.div_lt_iff_lt_mul (Nat.two_pow_pos k), ← Nat.pow_add, Nat.sub_add_cancel hk]; exact hx
  have h2 : x * 2 ^ (32 - k) % 4294967296 = 2 ^ (32 - k) * (x % 2 ^ k) := by
    have e : (4294967296 : Nat) = 2 ^ (32 - k) * 2 ^ k := by rw [← Nat.pow_add, Nat.sub_add_cancel hk]
    rw [e, Nat.mul_comm x, Nat.mul_mod_mul_left]
  rw [h2, ← Nat.two_pow_add_eq_or_of_lt h1, Nat.add_comm]
/-- A word turned by several places each, all put together. -/
def turned (x : Nat) (l : List Nat) : Nat := (l.map (rr x)).foldl (· ^^^ ·) 0
theorem turned_snoc (x k : Nat) (l : List Nat) : turned x (l ++ [k]) = turned x l ^^^ rr x k := by simp [turned]
theorem foldl_xor_lt : ∀ (l : List Nat) (a : Nat), a < 2 ^ 32 → (∀ y ∈ l, y < 2 ^ 32) → l.foldl (· ^^^ ·) a < 2 ^ 32
  | [], _, h, _ => h
  | y :: l, a, h, hl => foldl_xor_lt l (a ^^^ y) (Nat.xor_lt_two_pow h (hl y (by simp))) (fun z hz => hl z (by simp [hz]))
theorem turned_lt {x : Nat} {l : List Nat} (hx : x < 4294967296) (hl : ∀ k ∈ l, 1 ≤ k ∧ k ≤ 31) : turned x l < 4294967296 := by
  refine foldl_xor_lt _ 0 (by decide) ?_
  intro y hy
  obtain ⟨k, hk, rfl⟩ := List.mem_map.1 hy
  have := hl k hk
  exact rr_lt hx (by omega) (by omega)
def sig0 (x : Nat) : Nat := turned x [7, 18] ^^^ (x / 8)
def sig1 (x : Nat) : Nat := turned x [17, 19] ^^^ (x / 1024)
/-- A word from four bytes, the greatest part first. -/
def be (b : Nat → Nat) (t : Nat) : Nat := ((b (4 * t) * 256 + b (4 * t + 1)) * 256 + b (4 * t + 2)) * 256 + b (4 * t + 3)
def next (l : List Nat) (t : Nat) : Nat := (l.getD (t - 16) 0 + sig0 (l.getD (t - 15) 0) + l.getD (t - 7) 0 + sig1 (l.getD (t - 2) 0)) % 4294967296
/-- The first words of a block's schedule. -/
def sched (b : Nat → Nat) : Nat → List Nat
  | 0 => []
  | t + 1 => sched b t ++ [if t < 16 then be b t else next (sched b t) t]
theorem sched_length (b : Nat → Nat) : ∀ t, (sched b t).length = t
  | 0 => rfl
  | t + 1 => by simp [sched, sched_length b t]
/-- The word at a place. -/
def word (b : Nat → Nat) (t : Nat) : Nat := if t < 16 then be b t else next (sched b t) t
theorem sched_succ (b : Nat → Nat) (t : Nat) : sched b (t + 1) = sched b t ++ [word b t] := rfl
theorem sched_getD (b : Nat → Nat) : ∀ t k, k < t → (sched b t).getD k 0 = word b k
  | t + 1, k, h => by
    have hl := sched_length b t
    rw [sched_succ, List.getD_eq_getElem?_getD]
    by_cases hk : k < t
    · rw [List.getElem?_append_left (by rw [hl]; exact hk), ← List.getD_eq_getElem?_getD]; exact sched_getD b t k hk
    · obtain rfl : k = t := by omega
      rw [List.getElem?_append_right (by rw [hl]; exact Nat.le_refl _), hl]; simp
theorem sched_eq (b : Nat → Nat) (n : Nat) : sched b n = (List.range n).map (word b) := by
  induction n with
  | zero => rfl
  | succ n ih => rw [sched_succ, ih, List.range_succ, List.map_append]; rfl
theorem word_16 (b : Nat → Nat) (t : Nat) (h : 16 ≤ t) : word b t = (word b (t - 16) + sig0 (word b (t - 15)) + word b (t - 7) + sig1 (word b (t - 2))) % 4294967296 := by
  unfold word
  rw [if_neg (by omega)]
  unfold next
  rw [sched_getD b t _ (by omega), sched_getD b t _ (by omega), sched_getD b t _ (by omega), sched_getD b t _ (by omega)]
  rfl
theorem word_lt (b : Nat → Nat) (hb : ∀ i, b i < 256) (t : Nat) : word b t < 4294967296 := by
  unfold word
  split
  · unfold be
    have h0 := hb (4 * t); have h1 := hb (4 * t + 1); have h2 := hb (4 * t + 2); have h3 := hb (4 * t + 3)
    omega
  · exact Nat.mod_lt _ (by decide)
end Sha
/- The rounds of SHA-256 on a state of eight words: no program in sight. -/
set_option linter.unusedVariables false
set_option linter.unusedSimpArgs false
namespace Sha
structure St where
  a : Nat
  b : Nat
  c : Nat
  d : Nat
  e : Nat
  f : Nat
  g : Nat
  h : Nat
def St.ok (s : St) : Prop := s.a < 4294967296 ∧ s.b < 4294967296 ∧ s.c < 4294967296 ∧ s.d < 4294967296 ∧ s.e < 4294967296 ∧ s.f < 4294967296 ∧ s.g < 4294967296 ∧ s.h < 4294967296
def St.zero : St := ⟨0, 0, 0, 0, 0, 0, 0, 0⟩
def ch (e f g : Nat) : Nat := (e &&& f) ^^^ ((4294967295 - e) &&& g)
def maj (a b c : Nat) : Nat := ((a &&& b) ^^^ (a &&& c)) ^^^ (b &&& c)
def t1 (s : St) (k w : Nat) : Nat := (s.h + turned s.e [6, 11, 25] + ch s.e s.f s.g + k + w) % 4294967296
def t2 (s : St) : Nat := (turned s.a [2, 13, 22] + maj s.a s.b s.c) % 4294967296
def St.round (s : St) (k w : Nat) : St := ⟨(t1 s k w + t2 s) % 4294967296, s.a, s.b, s.c, (s.d + t1 s k w) % 4294967296, s.e, s.f, s.g⟩
def St.add (s t : St) : St := ⟨(s.a + t.a) % 4294967296, (s.b + t.b) % 4294967296, (s.c + t.c) % 4294967296, (s.d + t.d) % 4294967296, (s.e + t.e) % 4294967296, (s.f + t.f) % 4294967296, (s.g + t.g) % 4294967296, (s.h + t.h) % 4294967296⟩
theorem St.round_ok {s : St} (hs : s.ok) (k w : Nat) : (s.round k w).ok := by
  obtain ⟨h0, h1, h2, h3, h4, h5, h6, h7⟩ := hs
  exact ⟨Nat.mod_lt _ (by decide), h0, h1, h2, Nat.mod_lt _ (by decide), h4, h5, h6⟩
theorem St.add_ok (s t : St) : (s.add t).ok := ⟨Nat.mod_lt _ (by decide), Nat.mod_lt _ (by decide), Nat.mod_lt _ (by decide), Nat.mod_lt _ (by decide), Nat.mod_lt _ (by decide), Nat.mod_lt _ (by decide), Nat.mod_lt _ (by decide), Nat.mod_lt _ (by decide)⟩
theorem St.add_zero {s : St} (hs : s.ok) : St.zero.add s = s := by
  obtain ⟨h0, h1, h2, h3, h4, h5, h6, h7⟩ := hs
  cases s
  simp only [St.add, St.zero, Nat.zero_add] at *
  rw [Nat.mod_eq_of_lt h0, Nat.mod_eq_of_lt h1, Nat.mod_eq_of_lt h2, Nat.mod_eq_of_lt h3, Nat.mod_eq_of_lt h4, Nat.mod_eq_of_lt h5, Nat.mod_eq_of_lt h6, Nat.mod_eq_of_lt h7]
/-- The constants of rounds, as the document has them. -/
def K : List Nat := [1116352408, 1899447441, 3049323471, 3921009573, 961987163, 1508970993, 2453635748, 2870763221, 3624381080, 310598401, 607225278, 1426881987, 1925078388, 2162078206, 2614888103, 3248222580, 3835390401, 4022224774, 264347078, 604807628, 770255983, 1249150122, 1555081692, 1996064986, 2554220882, 2821834349, 2952996808, 3210313671, 3336571891, 3584528711, 113926993, 338241895, 666307205, 773529912, 1294757372, 1396182291, 1695183700, 1986661051, 2177026350, 2456956037, 2730485921, 2820302411, 3259730800, 3345764771, 3516065817, 3600352804, 4094571909, 275423344, 430227734, 506948616, 659060556, 883997877, 958139571, 1322822218, 1537002063, 1747873779, 1955562222, 2024104815, 2227730452, 2361852424, 2428436474, 2756734187, 3204031479, 3329325298]
/-- The state after t rounds of a block. -/
def St.rounds (s : St) (b : Nat → Nat) : Nat → St
  | 0 => s
  | t + 1 => (St.rounds s b t).round (K.getD t 0) (word b t)
theorem St.rounds_ok {s : St} (hs : s.ok) (b : Nat → Nat) : ∀ t, (s.rounds b t).ok
  | 0 => hs
  | t + 1 => St.round_ok (St.rounds_ok hs b t) _ _
/-- A state with a block. -/
def St.compress (s : St) (b : Nat → Nat) : St := (s.rounds b 64).add s
theorem xor_ones (x : Nat) (hx : x < 4294967296) : 4294967295 ^^^ x = 4294967295 - x := by
  have h : (~~~(BitVec.ofNat 32 x)).toNat = 2 ^ 32 - 1 - (BitVec.ofNat 32 x).toNat := BitVec.toNat_not
  have e : (BitVec.ofNat 32 x).toNat = x := by rw [BitVec.toNat_ofNat]; exact Nat.mod_eq_of_lt hx
  rw [← BitVec.allOnes_xor, BitVec.toNat_xor, e] at h
  simpa using h
end Sha
/- Closed facts of the translation, laid for the walk: an element of an array value by its place. -/
set_option linter.unusedVariables false
set_option linter.unusedSimpArgs false
namespace Go.Proofs.YtfafidholldjlaaDoor
theorem index23_0 (x0 x1 x2 x3 x4 x5 x6 x7 : Int) (w : World) : (Instr.index 23 (.agg #[.int .i64 x0, .int .i64 x1, .int .i64 x2, .int .i64 x3, .int .i64 x4, .int .i64 x5, .int .i64 x6, .int .i64 x7]) (.int .i64 0)).run Tryd.prog w = .ok (.int .i64 x0) w := by kernel_rfl
theorem index23_1 (x0 x1 x2 x3 x4 x5 x6 x7 : Int) (w : World) : (Instr.index 23 (.agg #[.int .i64 x0, .int .i64 x1, .int .i64 x2, .int .i64 x3, .int .i64 x4, .int .i64 x5, .int .i64 x6, .int .i64 x7]) (.int .i64 1)).run Tryd.prog w = .ok (.int .i64 x1) w := by kernel_rfl
theorem index23_2 (x0 x1 x2 x3 x4 x5 x6 x7 : Int) (w : World) : (Instr.index 23 (.agg #[.int .i64 x0, .int .i64 x1, .int .i64 x2, .int .i64 x3, .int .i64 x4, .int .i64 x5, .int .i64 x6, .int .i64 x7]) (.int .i64 2)).run Tryd.prog w = .ok (.int .i64 x2) w := by kernel_rfl
theorem index23_3 (x0 x1 x2 x3 x4 x5 x6 x7 : Int) (w : World) : (Instr.index 23 (.agg #[.int .i64 x0, .int .i64 x1, .int .i64 x2, .int .i64 x3, .int .i64 x4, .int .i64 x5, .int .i64 x6, .int .i64 x7]) (.int .i64 3)).run Tryd.prog w = .ok (.int .i64 x3) w := by kernel_rfl
theorem index23_4 (x0 x1 x2 x3 x4 x5 x6 x7 : Int) (w : World) : (Instr.index 23 (.agg #[.int .i64 x0, .int .i64 x1, .int .i64 x2, .int .i64 x3, .int .i64 x4, .int .i64 x5, .int .i64 x6, .int .i64 x7]) (.int .i64 4)).run Tryd.prog w = .ok (.int .i64 x4) w := by kernel_rfl
theorem index23_5 (x0 x1 x2 x3 x4 x5 x6 x7 : Int) (w : World) : (Instr.index 23 (.agg #[.int .i64 x0, .int .i64 x1, .int .i64 x2, .int .i64 x3, .int .i64 x4, .int .i64 x5, .int .i64 x6, .int .i64 x7]) (.int .i64 5)).run Tryd.prog w = .ok (.int .i64 x5) w := by kernel_rfl
theorem index23_6 (x0 x1 x2 x3 x4 x5 x6 x7 : Int) (w : World) : (Instr.index 23 (.agg #[.int .i64 x0, .int .i64 x1, .int .i64 x2, .int .i64 x3, .int .i64 x4, .int .i64 x5, .int .i64 x6, .int .i64 x7]) (.int .i64 6)).run Tryd.prog w = .ok (.int .i64 x6) w := by kernel_rfl
theorem index23_7 (x0 x1 x2 x3 x4 x5 x6 x7 : Int) (w : World) : (Instr.index 23 (.agg #[.int .i64 x0, .int .i64 x1, .int .i64 x2, .int .i64 x3, .int .i64 x4, .int .i64 x5, .int .i64 x6, .int .i64 x7]) (.int .i64 7)).run Tryd.prog w = .ok (.int .i64 x7) w := by kernel_rfl
theorem index78_0 (x0 x1 x2 x3 x4 x5 x6 x7 : Int) (w : World) : (Instr.index 78 (.agg #[.int .u32 x0, .int .u32 x1, .int .u32 x2, .int .u32 x3, .int .u32 x4, .int .u32 x5, .int .u32 x6, .int .u32 x7]) (.int .i64 0)).run Tryd.prog w = .ok (.int .u32 x0) w := by kernel_rfl
theorem index78_1 (x0 x1 x2 x3 x4 x5 x6 x7 : Int) (w : World) : (Instr.index 78 (.agg #[.int .u32 x0, .int .u32 x1, .int .u32 x2, .int .u32 x3, .int .u32 x4, .int .u32 x5, .int .u32 x6, .int .u32 x7]) (.int .i64 1)).run Tryd.prog w = .ok (.int .u32 x1) w := by kernel_rfl
theorem index78_2 (x0 x1 x2 x3 x4 x5 x6 x7 : Int) (w : World) : (Instr.index 78 (.agg #[.int .u32 x0, .int .u32 x1, .int .u32 x2, .int .u32 x3, .int .u32 x4, .int .u32 x5, .int .u32 x6, .int .u32 x7]) (.int .i64 2)).run Tryd.prog w = .ok (.int .u32 x2) w := by kernel_rfl
theorem index78_3 (x0 x1 x2 x3 x4 x5 x6 x7 : Int) (w : World) : (Instr.index 78 (.agg #[.int .u32 x0, .int .u32 x1, .int .u32 x2, .int .u32 x3, .int .u32 x4, .int .u32 x5, .int .u32 x6, .int .u32 x7]) (.int .i64 3)).run Tryd.prog w = .ok (.int .u32 x3) w := by kernel_rfl
theorem index78_4 (x0 x1 x2 x3 x4 x5 x6 x7 : Int) (w : World) : (Instr.index 78 (.agg #[.int .u32 x0, .int .u32 x1, .int .u32 x2, .int .u32 x3, .int .u32 x4, .int .u32 x5, .int .u32 x6, .int .u32 x7]) (.int .i64 4)).run Tryd.prog w = .ok (.int .u32 x4) w := by kernel_rfl
theorem index78_5 (x0 x1 x2 x3 x4 x5 x6 x7 : Int) (w : World) : (Instr.index 78 (.agg #[.int .u32 x0, .int .u32 x1, .int .u32 x2, .int .u32 x3, .int .u32 x4, .int .u32 x5, .int .u32 x6, .int .u32 x7]) (.int .i64 5)).run Tryd.prog w = .ok (.int .u32 x5) w := by kernel_rfl
theorem index78_6 (x0 x1 x2 x3 x4 x5 x6 x7 : Int) (w : World) : (Instr.index 78 (.agg #[.int .u32 x0, .int .u32 x1, .int .u32 x2, .int .u32 x3, .int .u32 x4, .int .u32 x5, .int .u32 x6, .int .u32 x7]) (.int .i64 6)).run Tryd.prog w = .ok (.int .u32 x6) w := by kernel_rfl
theorem index78_7 (x0 x1 x2 x3 x4 x5 x6 x7 : Int) (w : World) : (Instr.index 78 (.agg #[.int .u32 x0, .int .u32 x1, .int .u32 x2, .int .u32 x3, .int .u32 x4, .int .u32 x5, .int .u32 x6, .int .u32 x7]) (.int .i64 7)).run Tryd.prog w = .ok (.int .u32 x7) w := by kernel_rfl
attribute [go_sem] index23_0 index23_1 index23_2 index23_3 index23_4 index23_5 index23_6 index23_7 index78_0 index78_1 index78_2 index78_3 index78_4 index78_5 index78_6 index78_7
end Go.Proofs.YtfafidholldjlaaDoor
/- A frame for walks that write: only the blocks of a set D, and new ones, have turned. Facts on a block that is known whole. -/
set_option linter.unusedVariables false
set_option linter.unusedSimpArgs false
namespace Go.Proofs.YtfafidholldjlaaDoor
open Go.RowKit
structure Far (D : Nat → Prop) (w w' : World) : Prop where
  os : w'.os = w.os
  tape : w'.tape = w.tape
  output : w'.output = w.output
  size : w.heap.size ≤ w'.heap.size
  block : ∀ k, k < w.heap.size → ¬ D k → w'.heap[k]? = w.heap[k]?
def NoneD : Nat → Prop := fun _ => False
theorem Far.refl (D : Nat → Prop) (w : World) : Far D w w := ⟨rfl, rfl, rfl, Nat.le_refl _, fun _ _ _ => rfl⟩
/-- What came behind may have turned what is new to the first world, too. -/
theorem Far.step {D D' : Nat → Prop} {a b c : World} (h : Far D a b) (k : Far D' b c) (hd : ∀ i, i < a.heap.size → D' i → D i) : Far D a c :=
  ⟨k.os.trans h.os, k.tape.trans h.tape, k.output.trans h.output, Nat.le_trans h.size k.size,
   fun i hi hn => (k.block i (Nat.lt_of_lt_of_le hi h.size) (fun e => hn (hd i hi e))).trans (h.block i hi hn)⟩
theorem Far.trans {D : Nat → Prop} {a b c : World} (h : Far D a b) (k : Far D b c) : Far D a c := h.step k fun _ _ e => e
theorem Far.mono {D D' : Nat → Prop} {a b : World} (h : Far D a b) (hd : ∀ i, i < a.heap.size → D i → D' i) : Far D' a b := ⟨h.os, h.tape, h.output, h.size, fun i hi hn => h.block i hi (fun e => hn (hd i hi e))⟩
theorem Far.alloc {D : Nat → Prop} {a b : World} (h : Far D a b) (o : Obj) : Far D a (b.alloc o) :=
  h.trans ⟨rfl, rfl, rfl, by simp, fun k hk _ => Below.heap_alloc _ _ _ hk⟩
theorem Far.drew {D : Nat → Prop} {a b : World} (h : Far D a b) : Far D a b.drew := ⟨h.os, h.tape, h.output, h.size, h.block⟩
theorem Far.drewN {D : Nat → Prop} {a b : World} (h : Far D a b) (n : Nat) : Far D a (b.drewN n) := h.trans ⟨rfl, rfl, rfl, Nat.le_refl _, fun _ _ _ => rfl⟩
theorem Far.setCell {D : Nat → Prop} {a b : World} (h : Far D a b) {p : Addr} (hp : p.block < a.heap.size → D p.block) (u : Value) : Far D a (b.setCell p u) :=
  h.step (D' := (· = p.block)) ⟨rfl, rfl, rfl, by simp [World.setCell], fun k _ hn => Below.heap_setCell _ _ _ _ hn⟩ (fun i hi e => by subst e; exact hp hi)
theorem Far.setRow {D : Nat → Prop} {a b : World} (h : Far D a b) {g : Nat} (hp : g < a.heap.size → D g) (cs : Array Value) : Far D a (b.setRow g cs) :=
  h.step (D' := (· = g)) ⟨rfl, rfl, rfl, by simp, fun k _ hn => setRow_other _ _ _ _ hn⟩ (fun i hi e => by subst e; exact hp hi)
theorem Far.below {D : Nat → Prop} {a b c : World} (h : Far D a b) (k : Below b.heap.size b c) : Far D a c :=
  h.step (D' := NoneD) ⟨k.os, k.tape, k.output, k.size, fun i hi _ => k.block i hi⟩ (fun _ _ e => e.elim)
theorem Far.of_below {a b : World} (k : Below a.heap.size a b) (D : Nat → Prop) : Far D a b := (Far.refl D a).below k
theorem Far.to_below {a b : World} {B : Nat} {D : Nat → Prop} (h : Far D a b) (hB : B ≤ a.heap.size) (hD : ∀ i, i < B → ¬ D i) : Below B a b :=
  ⟨h.os, h.tape, h.output, h.size, fun i hi => h.block i (Nat.lt_of_lt_of_le hi hB) (hD i hi)⟩
/-- Behind a law that ends in 'grownBy'. -/
theorem Far.grown {D : Nat → Prop} {a b c : World} {row : Option Nat} (h : Far D a b) (hg : b.grownBy c row) (hr : ∀ k, row = some k → k < a.heap.size → D k) : Far D a c :=
  h.step (D' := fun i => row = some i) ⟨hg.os, hg.tape, hg.output, hg.size, fun i hi hn => hg.block i hi (fun e => hn e.symm)⟩ (fun i hi e => hr i e hi)
theorem Far.cell {D : Nat → Prop} {a b : World} (h : Far D a b) {p : Addr} (hp : p.block < a.heap.size) (hn : ¬ D p.block) : b.cell? p = a.cell? p := World.cell?_of_block (w := a) (h.block p.block hp hn)
theorem Far.frozen {D : Nat → Prop} {a b : World} (h : Far D a b) {p : Addr} (hp : p.block < a.heap.size) (hn : ¬ D p.block) : b.frozen? p = a.frozen? p := World.frozen?_of_block (w := a) (h.block p.block hp hn)
/-! A block that is known whole. -/
theorem lt_of_heap {w : World} {b : Nat} {o : Obj} (h : w.heap[b]? = some o) : b < w.heap.size := (Array.getElem?_eq_some_iff.1 h).1
theorem cell_of {w : World} {b : Nat} {c : Array Value} {T : TypeId} {fr : Nat × Nat} (h : w.heap[b]? = some (.cells c T fr)) (j : Nat) : w.cell? ⟨b, j, none⟩ = c[j]? := by simp [World.cell?, h]
theorem frozen_of {w : World} {b : Nat} {c : Array Value} {T : TypeId} (h : w.heap[b]? = some (.cells c T (0, 0))) (j : Nat) : w.frozen? ⟨b, j, none⟩ = false := by simp [World.frozen?, h]
theorem setCell_heap {w : World} {b : Nat} {c : Array Value} {T : TypeId} {fr : Nat × Nat} (h : w.heap[b]? = some (.cells c T fr)) (j : Nat) (v : Value) :
    (w.setCell ⟨b, j, none⟩ v).heap[b]? = some (.cells (c.setIfInBounds j v) T fr) := by
  rw [setCell_eq_setRow w b j c T fr v h]; exact setRow_heap w b c _ T fr h
theorem alloc_heap (w : World) (o : Obj) : (w.alloc o).heap[w.heap.size]? = some o := by
  show (w.heap.push o)[w.heap.size]? = some o
  simp
theorem alloc_heap_at (w : World) (o : Obj) (n : Nat) (hn : n = w.heap.size) : (w.alloc o).heap[n]? = some o := by subst hn; exact alloc_heap w o
theorem alloc_heap_old {w : World} {b : Nat} {x : Obj} (o : Obj) (h : w.heap[b]? = some x) : (w.alloc o).heap[b]? = some x := (Below.heap_alloc w o b (lt_of_heap h)).trans h
theorem Far.heap {D : Nat → Prop} {a b : World} (h : Far D a b) {k : Nat} {x : Obj} (hk : a.heap[k]? = some x) (hn : ¬ D k) : b.heap[k]? = some x := (h.block k (lt_of_heap hk) hn).trans hk
theorem new_at {w : World} {c : Array Value} {t : TypeId} {n i : Nat} {v : Value} (hn : n = w.heap.size) (hv : c[i]? = some v) : (w.alloc (.cells c t)).cell? ⟨n, i, none⟩ = some v := by
  subst hn
  exact (World.cell?_alloc_new _ _ _ _).trans hv
theorem new_past {w : World} {o : Obj} {n i : Nat} {v : Value} (hn : n < w.heap.size) (h : w.cell? ⟨n, i, none⟩ = some v) : (w.alloc o).cell? ⟨n, i, none⟩ = some v :=
  (World.cell?_alloc_lt w o ⟨n, i, none⟩ hn).trans h
theorem frozen_past {w : World} {o : Obj} {n i : Nat} (hn : n < w.heap.size) (h : w.frozen? ⟨n, i, none⟩ = false) : (w.alloc o).frozen? ⟨n, i, none⟩ = false :=
  (World.frozen?_of_block (w := w) (Below.heap_alloc w o n hn)).trans h
theorem cell_other {w : World} {b i j : Nat} {u v : Value} (hn : i ≠ j) (h : w.cell? ⟨b, i, none⟩ = some v) : (w.setCell ⟨b, j, none⟩ u).cell? ⟨b, i, none⟩ = some v := by
  rw [World.cell?_setCell_other]
  · exact h
  · intro e; cases e; exact hn rfl
theorem ownsRow_far {D : Nat → Prop} {w w' : World} {base : Nat} {e : TypeId} {size : Nat} {v : Value} {n : Nat} {xs : List Value} (h : w.ownsRow base e size v n xs) (hf : Far D w w') (hD : ∀ k, base ≤ k → k < w.heap.size → ¬ D k) : w'.ownsRow base e size v n xs := by
  refine ⟨h.1, ?_⟩
  rcases h.2 with hn | ⟨g, cap, cur, rfl, hb, hgg, rest⟩
  · exact .inl hn
  · exact .inr ⟨g, cap, cur, rfl, hb, hf.heap hgg (hD g hb (lt_of_heap hgg)), rest⟩
theorem ownsRow_form {w : World} {base : Nat} {e : TypeId} {size : Nat} {v : Value} {n : Nat} {xs : List Value} (h : w.ownsRow base e size v (n + 1) xs) : ∃ g cap, v = .slice (some ⟨g, 0, none⟩) (n + 1) cap ∧ base ≤ g ∧ g < w.heap.size := by
  rcases h.2 with ⟨_, h0⟩ | ⟨g, cap, cur, rfl, hb, hgg, _⟩
  · omega
  · exact ⟨g, cap, rfl, hb, lt_of_heap hgg⟩
theorem ownsRow_cell {w : World} {base : Nat} {e : TypeId} {g n cap : Nat} {xs : List Value} (h : w.ownsRow base e 1 (.slice (some ⟨g, 0, none⟩) n cap) n xs) (j : Nat) (u : Value) (hj : xs[j]? = some u) : w.cell? ⟨g, j, none⟩ = some u := by
  have := h.cells (g := g) rfl j u hj
  have hadd : (⟨g, 0, none⟩ : Addr).add j = ⟨g, j, none⟩ := by unfold Addr.add; split <;> simp_all
  rwa [hadd] at this
/-- Two stores into one cell are the second. -/
theorem setCell_twice (w : World) (a : Addr) (v u : Value) : (w.setCell a v).setCell a u = w.setCell a u := by
  have h : ∀ (H : Array Obj) (b : Nat) (f g : Obj → Obj), (∀ o, g (f o) = g o) → (H.modify b f).modify b g = H.modify b g := by
    intro H b f g hfg
    apply Array.ext
    · simp
    · intro i h1 h2
      simp only [Array.getElem_modify]
      by_cases e : b = i
      · simp [e, hfg]
      · simp [e]
  unfold World.setCell
  simp only
  rw [h]
  intro o
  cases o <;> simp
  split <;> simp
end Go.Proofs.YtfafidholldjlaaDoor
/- Eight stores into one block. -/
set_option linter.unusedVariables false
set_option linter.unusedSimpArgs false
namespace Go.Proofs.YtfafidholldjlaaDoor
open Go.RowKit
theorem store8 (W : World) (b : Nat) (T : TypeId) (a0 a1 a2 a3 a4 a5 a6 a7 v0 v1 v2 v3 v4 v5 v6 v7 : Value) (h : W.heap[b]? = some (.cells #[a0, a1, a2, a3, a4, a5, a6, a7] T (0, 0))) :
    ((((((((W.setCell ⟨b, 0, none⟩ v0).setCell ⟨b, 1, none⟩ v1).setCell ⟨b, 2, none⟩ v2).setCell ⟨b, 3, none⟩ v3).setCell ⟨b, 4, none⟩ v4).setCell ⟨b, 5, none⟩ v5).setCell ⟨b, 6, none⟩ v6).setCell ⟨b, 7, none⟩ v7).heap[b]? = some (.cells #[v0, v1, v2, v3, v4, v5, v6, v7] T (0, 0)) := by
  have h0 : (W.setCell ⟨b, 0, none⟩ v0).heap[b]? = some (.cells #[v0, a1, a2, a3, a4, a5, a6, a7] T (0, 0)) := setCell_heap h 0 v0
  have h1 : ((W.setCell ⟨b, 0, none⟩ v0).setCell ⟨b, 1, none⟩ v1).heap[b]? = some (.cells #[v0, v1, a2, a3, a4, a5, a6, a7] T (0, 0)) := setCell_heap h0 1 v1
  have h2 : (((W.setCell ⟨b, 0, none⟩ v0).setCell ⟨b, 1, none⟩ v1).setCell ⟨b, 2, none⟩ v2).heap[b]? = some (.cells #[v0, v1, v2, a3, a4, a5, a6, a7] T (0, 0)) := setCell_heap h1 2 v2
  have h3 : ((((W.setCell ⟨b, 0, none⟩ v0).setCell ⟨b, 1, none⟩ v1).setCell ⟨b, 2, none⟩ v2).setCell ⟨b, 3, none⟩ v3).heap[b]? = some (.cells #[v0, v1, v2, v3, a4, a5, a6, a7] T (0, 0)) := setCell_heap h2 3 v3
  have h4 : (((((W.setCell ⟨b, 0, none⟩ v0).setCell ⟨b, 1, none⟩ v1).setCell ⟨b, 2, none⟩ v2).setCell ⟨b, 3, none⟩ v3).setCell ⟨b, 4, none⟩ v4).heap[b]? = some (.cells #[v0, v1, v2, v3, v4, a5, a6, a7] T (0, 0)) := setCell_heap h3 4 v4
  have h5 : ((((((W.setCell ⟨b, 0, none⟩ v0).setCell ⟨b, 1, none⟩ v1).setCell ⟨b, 2, none⟩ v2).setCell ⟨b, 3, none⟩ v3).setCell ⟨b, 4, none⟩ v4).setCell ⟨b, 5, none⟩ v5).heap[b]? = some (.cells #[v0, v1, v2, v3, v4, v5, a6, a7] T (0, 0)) := setCell_heap h4 5 v5
  have h6 : (((((((W.setCell ⟨b, 0, none⟩ v0).setCell ⟨b, 1, none⟩ v1).setCell ⟨b, 2, none⟩ v2).setCell ⟨b, 3, none⟩ v3).setCell ⟨b, 4, none⟩ v4).setCell ⟨b, 5, none⟩ v5).setCell ⟨b, 6, none⟩ v6).heap[b]? = some (.cells #[v0, v1, v2, v3, v4, v5, v6, a7] T (0, 0)) := setCell_heap h5 6 v6
  have h7 : ((((((((W.setCell ⟨b, 0, none⟩ v0).setCell ⟨b, 1, none⟩ v1).setCell ⟨b, 2, none⟩ v2).setCell ⟨b, 3, none⟩ v3).setCell ⟨b, 4, none⟩ v4).setCell ⟨b, 5, none⟩ v5).setCell ⟨b, 6, none⟩ v6).setCell ⟨b, 7, none⟩ v7).heap[b]? = some (.cells #[v0, v1, v2, v3, v4, v5, v6, v7] T (0, 0)) := setCell_heap h6 7 v7
  exact h7
theorem below8 {N : Nat} {a : World} (W : World) (b : Nat) (v0 v1 v2 v3 v4 v5 v6 v7 : Value) (h : Below N a W) (hb : N ≤ b) : Below N a ((((((((W.setCell ⟨b, 0, none⟩ v0).setCell ⟨b, 1, none⟩ v1).setCell ⟨b, 2, none⟩ v2).setCell ⟨b, 3, none⟩ v3).setCell ⟨b, 4, none⟩ v4).setCell ⟨b, 5, none⟩ v5).setCell ⟨b, 6, none⟩ v6).setCell ⟨b, 7, none⟩ v7) := by
  iterate 8 (refine Below.setCell ?_ ?_ _; rotate_left; exact hb)
  exact h
theorem far8 {D : Nat → Prop} {a : World} (W : World) (b : Nat) (v0 v1 v2 v3 v4 v5 v6 v7 : Value) (h : Far D a W) (hb : b < a.heap.size → D b) : Far D a ((((((((W.setCell ⟨b, 0, none⟩ v0).setCell ⟨b, 1, none⟩ v1).setCell ⟨b, 2, none⟩ v2).setCell ⟨b, 3, none⟩ v3).setCell ⟨b, 4, none⟩ v4).setCell ⟨b, 5, none⟩ v5).setCell ⟨b, 6, none⟩ v6).setCell ⟨b, 7, none⟩ v7) := by
  iterate 8 (refine Far.setCell ?_ ?_ _; rotate_left; exact hb)
  exact h
theorem other8 (W : World) (b k : Nat) (v0 v1 v2 v3 v4 v5 v6 v7 : Value) (hk : k ≠ b) : ((((((((W.setCell ⟨b, 0, none⟩ v0).setCell ⟨b, 1, none⟩ v1).setCell ⟨b, 2, none⟩ v2).setCell ⟨b, 3, none⟩ v3).setCell ⟨b, 4, none⟩ v4).setCell ⟨b, 5, none⟩ v5).setCell ⟨b, 6, none⟩ v6).setCell ⟨b, 7, none⟩ v7).heap[k]? = W.heap[k]? := by
  iterate 8 refine (Below.heap_setCell _ _ _ _ hk).trans ?_
  rfl
end Go.Proofs.YtfafidholldjlaaDoor
/- A range over a function whose iterator keeps cells of its own: the law, over the widest fence. The iterator owns the blocks bs (read) and bw (written); the body may leave by a jump. -/
set_option linter.unusedVariables false
set_option linter.unusedSimpArgs false
namespace Go.Proofs.YtfafidholldjlaaDoor
open Go.RowKit
theorem far_putObj (W : World) (l : Nat) (o : Obj) : Far (· = l) W (W.putObj l o) := ⟨rfl, rfl, rfl, by simp, fun _ _ hn => World.putObj_heap_other hn⟩
/-- What an iterator promises: N rounds, or fewer if a round says so (X: it takes such rounds in). -/
def Iter (X : Bool) (P : Program) (gf : Nat) (lb : Array Value) (m : Nat) (N : Nat) (enc : Nat → Array Value) (own keep : Nat → Prop) (w : World) : Prop :=
  ∀ (l : Nat) (J : Nat → World → Prop) (Jx : World → Prop) (W1 : World), Below w.heap.size w W1 → (∀ t W W', J t W → Far own W W' → J t W') → (∀ W W', Jx W → Far own W W' → Jx W') → (X = false → ∀ W, ¬ Jx W) →
    (∀ t, t < N → ∀ W, J t W → YieldAt Fence.wide m P l (enc t) W fun e W' => (e = .returned (.bool true) ∧ J (t + 1) W' ∧ Far (fun k => ¬ keep k) W W') ∨ (e = .returned (.bool false) ∧ Jx W')) →
    J 0 W1 → Calls P gf (#[.func (.yield l) #[] #[]] ++ lb) W1 fun e W' => (∃ v, e = .returned v) ∧ (J N W' ∨ Jx W')
/-- What a body must achieve. -/
def rangeBody (I : World → Prop) (Ix : Code → World → Prop) (keep : Nat → Prop) (W : World) : Exit → Act → World → Prop
  | .normal, _, W' => I W' ∧ Far (fun k => ¬ keep k) W W'
  | .ret, _, W' => Ix .ret W' ∧ Far (fun k => ¬ keep k) W W'
  | .exit id, _, W' => Ix (.exit id) W' ∧ Far (fun k => ¬ keep k) W W'
  | .goto t, _, W' => Ix (.goto t) W' ∧ Far (fun k => ¬ keep k) W W'
  | .panic _, _, _ => False
  | .outgrown, _, _ => False
theorem range_law {X : Bool} {P : Program} {n : Nat} {g : Operand} {ps : Array Tmp} {assign body : Code} {Q : Exit → Act → World → Prop} {a : Act} {w : World} {gf : Nat} {lb : Array Value} {N : Nat} {enc : Nat → Array Value} {own keep : Nat → Prop}
    (hg : a.eval g = .func (.func gf) #[] lb) (eg : ∀ args w, (callFunc gf args).run P w = .ok (.enter gf args) w)
    (hiter : Iter X P gf lb (n - 1 - 1) N enc own keep w) (hown : ∀ k, own k → k < w.heap.size) (hkeep : ∀ k, keep k → k < w.heap.size) (hps : ∀ t, (enc t).size = ps.size)
    (I : Nat → World → Prop) (Ix : Code → World → Prop)
    (hI : ∀ t W W', I t W → Far (fun k => own k ∨ k = w.heap.size + 1) W W' → I t W') (hIx : ∀ c W W', Ix c W → Far (fun k => own k ∨ k = w.heap.size + 1) W W' → Ix c W')
    (hX : X = false → ∀ c W, ¬ Ix c W) (h0 : I 0 w) (a₁ : Nat → Act)
    (hassign : ∀ t W (K : Act → World → Prop), K (a₁ t) W → assign.wpIn (Fence.wide.inRound (w.heap.size + 1)) (n - 1 - 1) P (Exit.then K (fun _ _ _ => False)) { tmps := (ps.zip (enc t)).foldl (fun s (p, v) => s.setIfInBounds p v) a.tmps, defers := [] } W)
    (hbody : ∀ t W, t < N → w.heap.size + 1 < W.heap.size → I t W → body.wpIn (Fence.wide.inRound (w.heap.size + 1)) (n - 1 - 1) P (rangeBody (I (t + 1)) Ix (fun k => keep k ∨ k = w.heap.size ∨ k = w.heap.size + 1) W) (a₁ t) W)
    (hdone : ∀ W, I N W → W.heap[w.heap.size]? = some (.deferred (some [])) → Q .normal { a with defers := { target := .collected w.heap.size, args := #[] } :: a.defers } W)
    (hstop : ∀ c W, Ix c W → W.heap[w.heap.size]? = some (.deferred (some [])) → c.wpIn Fence.wide n P Q { a with defers := { target := .collected w.heap.size, args := #[] } :: a.defers } W) :
    (Code.rangeFunc g ps assign body).wpIn Fence.wide n P Q a w := by
  refine wpIn_rangeFunc ?_
  intro fn hfn
  obtain ⟨rec, hrec⟩ : ∃ rec : LoopState → Option Code → Loop, rec = fun st pe => { state := st, pending := pe, fn, tmps := a.tmps, params := ps, assign, body, defers := w.heap.size } := ⟨_, rfl⟩
  obtain ⟨W1, hW1⟩ : ∃ W1, (w.alloc (.deferred (some []))).alloc (.loop (rec .ready none)) = W1 := ⟨_, rfl⟩
  have hL1 : W1.heap[w.heap.size + 1]? = some (.loop (rec .ready none)) := by
    rw [← hW1]; exact alloc_heap_at _ _ _ (by simp)
  have hK1 : W1.heap[w.heap.size]? = some (.deferred (some [])) := by
    rw [← hW1]; exact alloc_heap_old _ (alloc_heap w _)
  have hI1 : I 0 W1 := by rw [← hW1]; exact hI 0 w _ h0 (((Far.refl _ _).alloc _).alloc _)
  have hb1 : Below w.heap.size w W1 := by rw [← hW1]; exact ((Below.refl _ w).alloc (Nat.le_refl _) _).alloc (by simp) _
  refine ⟨w.heap.size + 1, [{ target := .collected w.heap.size, args := #[] }], W1, { target := .fn (.func gf) lb, args := #[.func (.yield (w.heap.size + 1)) #[] #[]] }, W1, gf,
    #[.func (.yield (w.heap.size + 1)) #[] #[]] ++ lb, W1, ?_, ?_, ?_, ?_, fun h => absurd h (by simp [Fence.wide]), ?_⟩
  · rw [← hW1, hrec]; exact run_enterLoop_outer _ _ _ _ _
  · simp only [resolve, hg]
    simp [go_sem]
  · intro f' _; trivial
  · simp [invoke, go_sem, eg]
  · refine callsIn_wide.2 ((hiter (w.heap.size + 1)
      (fun t W => I t W ∧ W.heap[w.heap.size + 1]? = some (.loop (rec .ready none)) ∧ W.heap[w.heap.size]? = some (.deferred (some [])))
      (fun W => ∃ c, Ix c W ∧ W.heap[w.heap.size + 1]? = some (.loop (rec .done (some c))) ∧ W.heap[w.heap.size]? = some (.deferred (some [])))
      W1 hb1 ?_ ?_ (fun hx W ⟨c, hc, _⟩ => hX hx c W hc) ?_ ⟨hI1, hL1, hK1⟩).mono ?_)
    · rintro t W W' ⟨hi, hl, hk⟩ hf
      exact ⟨hI t W W' hi (hf.mono fun _ _ e => .inl e), hf.heap hl (fun e => by have := hown _ e; omega), hf.heap hk (fun e => by have := hown _ e; omega)⟩
    · rintro W W' ⟨c, hi, hl, hk⟩ hf
      exact ⟨c, hIx c W W' hi (hf.mono fun _ _ e => .inl e), hf.heap hl (fun e => by have := hown _ e; omega), hf.heap hk (fun e => by have := hown _ e; omega)⟩
    · rintro t ht W ⟨hi, hl, hk⟩
      have hlt : w.heap.size + 1 < W.heap.size := lt_of_heap hl
      have hy := run_yield (P := P) (args := enc t) hl (by rw [hrec]; exact hps t)
      rw [hrec] at hy
      refine ⟨fn, _, assign, body, hy, roundIn_of_wpIn trivial (hassign t W _ ⟨_, run_beginRound hl (by rw [hrec]), ?_⟩)⟩
      have hl2 : (W.putObj (w.heap.size + 1) (.loop { rec .ready none with state := .busy })).heap[w.heap.size + 1]? = some (.loop { rec .ready none with state := .busy }) := World.putObj_heap_same hlt
      have hk2 : (W.putObj (w.heap.size + 1) (.loop { rec .ready none with state := .busy })).heap[w.heap.size]? = some (.deferred (some [])) := (World.putObj_heap_other (by omega)).trans hk
      have hf2 : Far (· = w.heap.size + 1) W (W.putObj (w.heap.size + 1) (.loop { rec .ready none with state := .busy })) := far_putObj _ _ _
      have hi2 := hI t W _ hi (hf2.mono fun _ _ e => .inr e)
      refine wpIn_mono (hbody t _ ht (by simpa using hlt) hi2) ?_
      have fin : ∀ (jump : Option Code) (W3 : World), Far (fun k => ¬ (keep k ∨ k = w.heap.size ∨ k = w.heap.size + 1)) (W.putObj (w.heap.size + 1) (.loop { rec .ready none with state := .busy })) W3 →
          (Instr.endRound (w.heap.size + 1) jump).run P W3 = .ok (.bool jump.isNone) (W3.putObj (w.heap.size + 1) (.loop (rec (if jump.isNone then .ready else .done) jump))) ∧
          (W3.putObj (w.heap.size + 1) (.loop (rec (if jump.isNone then .ready else .done) jump))).heap[w.heap.size + 1]? = some (.loop (rec (if jump.isNone then .ready else .done) jump)) ∧
          (W3.putObj (w.heap.size + 1) (.loop (rec (if jump.isNone then .ready else .done) jump))).heap[w.heap.size]? = some (.deferred (some [])) ∧
          Far (fun k => ¬ keep k) W (W3.putObj (w.heap.size + 1) (.loop (rec (if jump.isNone then .ready else .done) jump))) := fun jump W3 hk3 => by
        have hl3 := hk3.heap hl2 (fun e => e (.inr (.inr rfl)))
        have hd3 := hk3.heap hk2 (fun e => e (.inr (.inl rfl)))
        have := run_endRound (P := P) jump hl3
        rw [hrec] at this ⊢
        refine ⟨this, World.putObj_heap_same (lt_of_heap hl3), (World.putObj_heap_other (by omega)).trans hd3, ?_⟩
        rw [hrec] at hk3
        rw [hrec] at hf2
        exact ((hf2.mono fun i _ e hki => by have := hkeep i hki; omega).step hk3 (fun i _ e hki => e (.inl hki))).step (far_putObj _ _ _) (fun i _ e hki => by have := hkeep i hki; omega)
      have frl : ∀ (W3 : World) (o : Obj), Far (fun k => own k ∨ k = w.heap.size + 1) W3 (W3.putObj (w.heap.size + 1) o) := fun W3 o => (far_putObj W3 _ o).mono fun _ _ e => .inr e
      rintro e a3 W3 hp
      cases e with
      | normal =>
        obtain ⟨hi3, hk3⟩ := hp
        obtain ⟨hr, hl4, hk4, hf4⟩ := fin none W3 hk3
        exact ⟨_, _, hr, .inl ⟨rfl, ⟨hI _ _ _ hi3 (frl _ _), hl4, hk4⟩, hf4⟩⟩
      | ret =>
        obtain ⟨hi3, hk3⟩ := hp
        obtain ⟨hr, hl4, hk4, hf4⟩ := fin (some .ret) W3 hk3
        exact ⟨_, _, hr, .inr ⟨rfl, .ret, hIx _ _ _ hi3 (frl _ _), hl4, hk4⟩⟩
      | exit id =>
        obtain ⟨hi3, hk3⟩ := hp
        obtain ⟨hr, hl4, hk4, hf4⟩ := fin (some (.exit id)) W3 hk3
        exact ⟨_, _, hr, .inr ⟨rfl, .exit id, hIx _ _ _ hi3 (frl _ _), hl4, hk4⟩⟩
      | goto t =>
        obtain ⟨hi3, hk3⟩ := hp
        obtain ⟨hr, hl4, hk4, hf4⟩ := fin (some (.goto t)) W3 hk3
        exact ⟨_, _, hr, .inr ⟨rfl, .goto t, hIx _ _ _ hi3 (frl _ _), hl4, hk4⟩⟩
      | panic ch => exact hp.elim
      | outgrown => exact hp.elim
    · have frl : ∀ (W3 : World) (o : Obj), Far (fun k => own k ∨ k = w.heap.size + 1) W3 (W3.putObj (w.heap.size + 1) o) := fun W3 o => (far_putObj W3 _ o).mono fun _ _ e => .inr e
      rintro e W2 ⟨⟨v, rfl⟩, (⟨hi, hl, hk⟩ | ⟨c, hi, hl, hk⟩)⟩
      · exact ⟨none, _, by have := run_endLoop (P := P) hl (by rw [hrec]; simp); rw [hrec] at this; exact this, hdone _ (hI _ _ _ hi (frl _ _)) ((World.putObj_heap_other (by omega)).trans hk)⟩
      · exact ⟨some c, _, by have := run_endLoop (P := P) hl (by rw [hrec]; simp); rw [hrec] at this; exact this, hstop c _ (hIx c _ _ hi (frl _ _)) ((World.putObj_heap_other (by omega)).trans hk)⟩
end Go.Proofs.YtfafidholldjlaaDoor
/- Two arrays of eight numbers, held against each other. -/
set_option linter.unusedVariables false
set_option linter.unusedSimpArgs false
namespace Go.Proofs.YtfafidholldjlaaDoor
open Go.RowKit
/-- The same eight numbers? -/
def eq8 (x y : List Int) : Bool := x == y
theorem eq8_iff (x y : List Int) : eq8 x y = true ↔ x = y := by simp [eq8]
theorem eq8_refl (x : List Int) : eq8 x x = true := by simp [eq8]
theorem part_at (e : TypeId) (ha : ∀ w, (isAgg e).run Tryd.prog w = .ok false w) (cs : Array Value) (off : Nat) (v : Value) (h : cs[off]? = some v) (w : World) : (part e cs off).run Tryd.prog w = .ok v w := by
  unfold part
  simp [Sem.run_bind, ha, h, Result.andThen]
theorem eqItems_ints (e : TypeId) (k : IntKind) (ha : ∀ w, (isAgg e).run Tryd.prog w = .ok false w) (he : Tryd.prog.underlying e = some (.int k)) (d : Nat) (w : World) (l m : List Int) : ∀ is : List Nat, (∀ i ∈ is, i < l.length ∧ i < m.length) →
    (Op.eqItems (d + 1) e 1 (l.map (Value.int k)).toArray (m.map (Value.int k)).toArray is).run Tryd.prog w = .ok (is.all fun i => l.getD i 0 == m.getD i 0) w
  | [], _ => by simp [Op.eqItems]
  | i :: is, h => by
    obtain ⟨h1, h2⟩ := h i (by simp)
    have p1 := part_at e ha (l.map (Value.int k)).toArray (i * 1) (.int k (l.getD i 0)) (by simp [h1]) w
    have p2 := part_at e ha (m.map (Value.int k)).toArray (i * 1) (.int k (m.getD i 0)) (by simp [h2]) w
    have p3 : (Op.equalIn (d + 1) e (.int k (l.getD i 0)) (.int k (m.getD i 0))).run Tryd.prog w = .ok (l.getD i 0 == m.getD i 0) w := by
      simp [Op.equalIn, Sem.run_bind, run_underlying he]
    have ih := eqItems_ints e k ha he d w l m is (fun j hj => h j (by simp [hj]))
    simp only [Op.eqItems, Sem.run_bind, p1, p2, p3, Result.andThen_ok]
    by_cases hb : (l.getD i 0 == m.getD i 0) = true
    · simp only [hb, Bool.not_true, Bool.false_eq_true, if_false, ih, List.all_cons, Bool.true_and]
    · have hb' : (l.getD i 0 == m.getD i 0) = false := by simpa using hb
      simp only [hb', Bool.not_false, if_true, Sem.run_pure, List.all_cons, Bool.false_and]
theorem isAgg3 (w : World) : (isAgg 3).run Tryd.prog w = .ok false w := by kernel_rfl
theorem isAgg73 (w : World) : (isAgg 73).run Tryd.prog w = .ok false w := by kernel_rfl
theorem infoSome3 : (Tryd.prog.info? 3).isSome = true := by kernel_rfl
theorem infoSome73 : (Tryd.prog.info? 73).isSome = true := by kernel_rfl
theorem cells3 : Tryd.prog.cellsOf 3 = 1 := by kernel_rfl
theorem cells73 : Tryd.prog.cellsOf 73 = 1 := by kernel_rfl
theorem all8 (x0 x1 x2 x3 x4 x5 x6 x7 y0 y1 y2 y3 y4 y5 y6 y7 : Int) : ((List.range 8).all fun i => ([x0, x1, x2, x3, x4, x5, x6, x7] : List Int).getD i 0 == ([y0, y1, y2, y3, y4, y5, y6, y7] : List Int).getD i 0) = eq8 [x0, x1, x2, x3, x4, x5, x6, x7] [y0, y1, y2, y3, y4, y5, y6, y7] := by
  rw [Bool.eq_iff_iff, eq8_iff]
  simp [List.range, List.range.loop]
theorem equalIn23 (x0 x1 x2 x3 x4 x5 x6 x7 y0 y1 y2 y3 y4 y5 y6 y7 : Int) (w : World) (d : Nat) : (Op.equalIn (d + 2) 23 (.agg #[.int .i64 x0, .int .i64 x1, .int .i64 x2, .int .i64 x3, .int .i64 x4, .int .i64 x5, .int .i64 x6, .int .i64 x7]) (.agg #[.int .i64 y0, .int .i64 y1, .int .i64 y2, .int .i64 y3, .int .i64 y4, .int .i64 y5, .int .i64 y6, .int .i64 y7])).run Tryd.prog w = .ok (eq8 [x0, x1, x2, x3, x4, x5, x6, x7] [y0, y1, y2, y3, y4, y5, y6, y7]) w := by
  obtain ⟨i, hi⟩ := Option.isSome_iff_exists.1 infoSome3
  rw [run_equalIn_array (P := Tryd.prog) w (d + 1) _ _ Tryd.underlying23 hi, cells3]
  have := eqItems_ints 3 .i64 isAgg3 Tryd.underlying3 d w [x0, x1, x2, x3, x4, x5, x6, x7] [y0, y1, y2, y3, y4, y5, y6, y7] (List.range 8) (by intro i hi; have := List.mem_range.1 hi; simp; omega)
  rw [all8] at this
  exact this
theorem eqDeep23 (x0 x1 x2 x3 x4 x5 x6 x7 y0 y1 y2 y3 y4 y5 y6 y7 : Int) (w : World) : (Op.equalIn 10000 23 (.agg #[.int .i64 x0, .int .i64 x1, .int .i64 x2, .int .i64 x3, .int .i64 x4, .int .i64 x5, .int .i64 x6, .int .i64 x7]) (.agg #[.int .i64 y0, .int .i64 y1, .int .i64 y2, .int .i64 y3, .int .i64 y4, .int .i64 y5, .int .i64 y6, .int .i64 y7])).run Tryd.prog w = .ok (eq8 [x0, x1, x2, x3, x4, x5, x6, x7] [y0, y1, y2, y3, y4, y5, y6, y7]) w := equalIn23 x0 x1 x2 x3 x4 x5 x6 x7 y0 y1 y2 y3 y4 y5 y6 y7 w 9998
theorem equalIn78 (x0 x1 x2 x3 x4 x5 x6 x7 y0 y1 y2 y3 y4 y5 y6 y7 : Int) (w : World) (d : Nat) : (Op.equalIn (d + 2) 78 (.agg #[.int .u32 x0, .int .u32 x1, .int .u32 x2, .int .u32 x3, .int .u32 x4, .int .u32 x5, .int .u32 x6, .int .u32 x7]) (.agg #[.int .u32 y0, .int .u32 y1, .int .u32 y2, .int .u32 y3, .int .u32 y4, .int .u32 y5, .int .u32 y6, .int .u32 y7])).run Tryd.prog w = .ok (eq8 [x0, x1, x2, x3, x4, x5, x6, x7] [y0, y1, y2, y3, y4, y5, y6, y7]) w := by
  obtain ⟨i, hi⟩ := Option.isSome_iff_exists.1 infoSome73
  rw [run_equalIn_array (P := Tryd.prog) w (d + 1) _ _ Tryd.underlying78 hi, cells73]
  have := eqItems_ints 73 .u32 isAgg73 Tryd.underlying73 d w [x0, x1, x2, x3, x4, x5, x6, x7] [y0, y1, y2, y3, y4, y5, y6, y7] (List.range 8) (by intro i hi; have := List.mem_range.1 hi; simp; omega)
  rw [all8] at this
  exact this
theorem eqDeep78 (x0 x1 x2 x3 x4 x5 x6 x7 y0 y1 y2 y3 y4 y5 y6 y7 : Int) (w : World) : (Op.equalIn 10000 78 (.agg #[.int .u32 x0, .int .u32 x1, .int .u32 x2, .int .u32 x3, .int .u32 x4, .int .u32 x5, .int .u32 x6, .int .u32 x7]) (.agg #[.int .u32 y0, .int .u32 y1, .int .u32 y2, .int .u32 y3, .int .u32 y4, .int .u32 y5, .int .u32 y6, .int .u32 y7])).run Tryd.prog w = .ok (eq8 [x0, x1, x2, x3, x4, x5, x6, x7] [y0, y1, y2, y3, y4, y5, y6, y7]) w := equalIn78 x0 x1 x2 x3 x4 x5 x6 x7 y0 y1 y2 y3 y4 y5 y6 y7 w 9998
attribute [go_sem] eqDeep23 eqDeep78
end Go.Proofs.YtfafidholldjlaaDoor
/- Walks of the leaves: RotateLeft32, turned. -/
set_option linter.unusedVariables false
set_option linter.unusedSimpArgs false
namespace Go.Proofs.YtfafidholldjlaaDoor
open Go.RowKit
theorem ret_int {k : IntKind} {a b : Int} (h : a = b) : Ending.returned (.int k a) = .returned (.int k b) := by rw [h]
theorem and31 (k : Nat) (hk : 1 ≤ k) (hk2 : k ≤ 31) : bits .and .u64 (IntKind.u64.wrap (-(k : Int))) 31 = 32 - (k : Int) := by
  rw [IntKind.wrap_u64, u64_and _ 31 (by omega) (by omega) (by omega) (by omega)]
  have e : ((-(k : Int)) % 18446744073709551616).toNat = 18446744073709551616 - k := by omega
  rw [e]
  have e2 : (31 : Int).toNat = 2 ^ 5 - 1 := rfl
  rw [e2, Nat.and_two_pow_sub_one_eq_mod]
  omega
theorem rotl_val (x k : Nat) (hx : x < 4294967296) (hk : 1 ≤ k) (hk2 : k ≤ 31) :
    bits BinOp.or IntKind.u32 ((x : Int) * 2 ^ (32 - k) % 4294967296) ((x : Int) / 2 ^ (32 - (32 - k))) = ((Sha.rr x k : Nat) : Int) := by
  have e2 : 32 - (32 - k) = k := by omega
  rw [e2]
  have e3 : ((x : Int) * 2 ^ (32 - k) % 4294967296) = ((x * 2 ^ (32 - k) % 4294967296 : Nat) : Int) := by simp
  have e4 : ((x : Int) / 2 ^ k) = ((x / 2 ^ k : Nat) : Int) := by simp
  rw [e3, e4, u32_or_nat _ _ (Nat.mod_lt _ (by decide)) (Nat.lt_of_le_of_lt (Nat.div_le_self _ _) hx), Sha.rr_or hx (by omega)]
theorem rotl_any (x k : Nat) (w : World) (hx : x < 4294967296) (hk : 1 ≤ k) (hk2 : k ≤ 31) :
    Calls Tryd.prog 94 #[.int .u32 (x : Int), .int .i64 (-(k : Int))] w fun e w' => e = .returned (.int .u32 (Sha.rr x k : Nat)) ∧ w = w' := by
  have h31 := and31 k hk hk2
  go_enter Tryd.func94, Tryd.ntmps94
  go_wp2
  go_ret
  exact ⟨ret_int (rotl_val x k hx hk hk2), rfl⟩
theorem turned_any (x : Nat) (ks : List Nat) (a : Addr) (c : Nat) (w : World) (hx : x < 4294967296) (hks : ∀ k ∈ ks, 1 ≤ k ∧ k ≤ 31) (hlen : ks.length ≤ 100)
    (hc : ∀ i (h : i < ks.length), w.cell? ⟨a.block, a.off + i, none⟩ = some (.int .i64 (ks[i] : Nat))) (ha : a.spot = none) :
    Calls Tryd.prog 83 #[.int .u32 (x : Int), .slice (some a) ks.length c] w fun e w' => e = .returned (.int .u32 (Sha.turned x ks : Nat)) ∧ w = w' := by
  obtain ⟨ab, ao, sp⟩ := a
  obtain rfl : sp = none := ha
  have Hc := Lib.hid hc
  have Hk := Lib.hid hks
  clear hc hks
  go_enter Tryd.func83, Tryd.ntmps83
  go_wp2
  go_loop [5, 10] (fun o i => ∃ k : Nat, k ≤ ks.length ∧ i = .int .i64 k ∧ o = .int .u32 (Sha.turned x (ks.take k) : Nat)) (fun _ i => ks.length - (intOf i).toNat)
  case atStart => exact ⟨0, Nat.zero_le _, rfl, rfl⟩
  case round =>
    obtain ⟨k, hk, rfl, rfl⟩ := hrel
    by_cases hlt : k < ks.length
    · have hcell := Hc.out k hlt
      have hb := Hk.out ks[k] (List.getElem_mem hlt)
      obtain ⟨hb1, hb2⟩ := hb
      have hsn : Hid (Sha.turned x (ks.take (k + 1)) = Sha.turned x (ks.take k) ^^^ Sha.rr x ks[k]) := by
        rw [List.take_succ_eq_append_getElem hlt]; exact Sha.turned_snoc _ _ _
      have hl1 : Sha.turned x (ks.take k) < 4294967296 := Sha.turned_lt hx (fun y hy => Hk.out y (List.mem_of_mem_take hy))
      have hl2 : Sha.rr x ks[k] < 4294967296 := Sha.rr_lt hx (by omega) hb1
      go_wp2_with (go_at_call 94; refine (rotl_any x _ _ hx hb1 hb2).mono ?_; rintro e w' ⟨rfl, rfl⟩)
      go_round
      case rel => exact ⟨k + 1, by omega, by go_num, by rw [hsn.out, u32_xor_nat _ _ hl1 hl2]⟩
      case measure => simp [intOf]; omega
    · obtain rfl : k = ks.length := by omega
      go_wp2
      go_ret
      exact ⟨rfl, rfl⟩
end Go.Proofs.YtfafidholldjlaaDoor
/- turned at the four lists of places that the rounds use. -/
set_option linter.unusedVariables false
set_option linter.unusedSimpArgs false
namespace Go.Proofs.YtfafidholldjlaaDoor
open Go.RowKit
theorem turned_e (x : Nat) (p c : Nat) (w : World) (hx : x < 4294967296) (c0 : w.cell? ⟨p, 0, none⟩ = some (.int .i64 6)) (c1 : w.cell? ⟨p, 1, none⟩ = some (.int .i64 11)) (c2 : w.cell? ⟨p, 2, none⟩ = some (.int .i64 25)) :
    Calls Tryd.prog 83 #[.int .u32 (x : Int), .slice (some ⟨p, 0, none⟩) 3 c] w fun e w' => e = .returned (.int .u32 (Sha.turned x [6, 11, 25] : Nat)) ∧ w = w' := by
  refine turned_any x [6, 11, 25] ⟨p, 0, none⟩ c w hx (by decide) (by decide) ?_ rfl
  intro i h
  match i, h with
    | 0, _ => exact (by simpa using c0)
    | 1, _ => exact (by simpa using c1)
    | 2, _ => exact (by simpa using c2)
    | n + 3, h => exact absurd h (by simp)
theorem turned_a (x : Nat) (p c : Nat) (w : World) (hx : x < 4294967296) (c0 : w.cell? ⟨p, 0, none⟩ = some (.int .i64 2)) (c1 : w.cell? ⟨p, 1, none⟩ = some (.int .i64 13)) (c2 : w.cell? ⟨p, 2, none⟩ = some (.int .i64 22)) :
    Calls Tryd.prog 83 #[.int .u32 (x : Int), .slice (some ⟨p, 0, none⟩) 3 c] w fun e w' => e = .returned (.int .u32 (Sha.turned x [2, 13, 22] : Nat)) ∧ w = w' := by
  refine turned_any x [2, 13, 22] ⟨p, 0, none⟩ c w hx (by decide) (by decide) ?_ rfl
  intro i h
  match i, h with
    | 0, _ => exact (by simpa using c0)
    | 1, _ => exact (by simpa using c1)
    | 2, _ => exact (by simpa using c2)
    | n + 3, h => exact absurd h (by simp)
theorem turned_s0 (x : Nat) (p c : Nat) (w : World) (hx : x < 4294967296) (c0 : w.cell? ⟨p, 0, none⟩ = some (.int .i64 7)) (c1 : w.cell? ⟨p, 1, none⟩ = some (.int .i64 18)) :
    Calls Tryd.prog 83 #[.int .u32 (x : Int), .slice (some ⟨p, 0, none⟩) 2 c] w fun e w' => e = .returned (.int .u32 (Sha.turned x [7, 18] : Nat)) ∧ w = w' := by
  refine turned_any x [7, 18] ⟨p, 0, none⟩ c w hx (by decide) (by decide) ?_ rfl
  intro i h
  match i, h with
    | 0, _ => exact (by simpa using c0)
    | 1, _ => exact (by simpa using c1)
    | n + 2, h => exact absurd h (by simp)
theorem turned_s1 (x : Nat) (p c : Nat) (w : World) (hx : x < 4294967296) (c0 : w.cell? ⟨p, 0, none⟩ = some (.int .i64 17)) (c1 : w.cell? ⟨p, 1, none⟩ = some (.int .i64 19)) :
    Calls Tryd.prog 83 #[.int .u32 (x : Int), .slice (some ⟨p, 0, none⟩) 2 c] w fun e w' => e = .returned (.int .u32 (Sha.turned x [17, 19] : Nat)) ∧ w = w' := by
  refine turned_any x [17, 19] ⟨p, 0, none⟩ c w hx (by decide) (by decide) ?_ rfl
  intro i h
  match i, h with
    | 0, _ => exact (by simpa using c0)
    | 1, _ => exact (by simpa using c1)
    | n + 2, h => exact absurd h (by simp)
end Go.Proofs.YtfafidholldjlaaDoor
/- Walks: of. -/
set_option linter.unusedVariables false
set_option linter.unusedSimpArgs false
namespace Go.Proofs.YtfafidholldjlaaDoor
open Go.RowKit
set_option maxRecDepth 100000 in
set_option maxHeartbeats 1000000 in
theorem of_ok (s0 s1 s2 s3 s4 s5 s6 s7 : Int) (w : World) (h0 : 0 ≤ s0) (g0 : s0 ≤ 4294967295) (h1 : 0 ≤ s1) (g1 : s1 ≤ 4294967295) (h2 : 0 ≤ s2) (g2 : s2 ≤ 4294967295) (h3 : 0 ≤ s3) (g3 : s3 ≤ 4294967295) (h4 : 0 ≤ s4) (g4 : s4 ≤ 4294967295) (h5 : 0 ≤ s5) (g5 : s5 ≤ 4294967295) (h6 : 0 ≤ s6) (g6 : s6 ≤ 4294967295) (h7 : 0 ≤ s7) (g7 : s7 ≤ 4294967295) :
    Calls Tryd.prog 65 #[.agg #[.int .i64 s0, .int .i64 s1, .int .i64 s2, .int .i64 s3, .int .i64 s4, .int .i64 s5, .int .i64 s6, .int .i64 s7]] w fun e w' => e = .returned (.tuple #[.agg #[.int .u32 s0, .int .u32 s1, .int .u32 s2, .int .u32 s3, .int .u32 s4, .int .u32 s5, .int .u32 s6, .int .u32 s7], .nilIface]) ∧ Below w.heap.size w w' := by
  go_enter Tryd.func65, Tryd.ntmps65
  go_wp2
  refine wp_loop_rounds 9 ?_
  iterate 9 (rw [rounds_succ]; go_wp2)
  exact bodyPost_ret (v := .tuple #[.agg #[.int .u32 s0, .int .u32 s1, .int .u32 s2, .int .u32 s3, .int .u32 s4, .int .u32 s5, .int .u32 s6, .int .u32 s7], .nilIface]) (by simp [results, Tryd.results65, go_sem]) rfl ⟨rfl, (((Below.refl _ _).alloc (Nat.le_refl _) _).alloc (by simp) _).alloc (by simp; omega) _⟩
set_option maxRecDepth 100000 in
set_option maxHeartbeats 1000000 in
theorem of_lo0 (s0 s1 s2 s3 s4 s5 s6 s7 : Int) (w : World) (t : TypeId) (p : Addr) (hz : 0 < w.heap.size) (hw : w.cell? ⟨0, 0, none⟩ = some (.iface t (.pointer (some p))))  (b : s0 < 0) :
    Calls Tryd.prog 65 #[.agg #[.int .i64 s0, .int .i64 s1, .int .i64 s2, .int .i64 s3, .int .i64 s4, .int .i64 s5, .int .i64 s6, .int .i64 s7]] w fun e w' => e = .returned (.tuple #[.agg #[.int .u32 0, .int .u32 0, .int .u32 0, .int .u32 0, .int .u32 0, .int .u32 0, .int .u32 0, .int .u32 0], .iface t (.pointer (some p))]) ∧ Below w.heap.size w w' := by
  go_enter Tryd.func65, Tryd.ntmps65
  go_wp2
  refine wp_loop_rounds 1 ?_
  iterate 1 (rw [rounds_succ]; go_wp2)
  go_region
  all_goals go_wp2
  all_goals exact bodyPost_ret (v := .tuple #[.agg #[.int .u32 0, .int .u32 0, .int .u32 0, .int .u32 0, .int .u32 0, .int .u32 0, .int .u32 0, .int .u32 0], .iface t (.pointer (some p))]) (by simp [results, Tryd.results65, go_sem]) rfl ⟨rfl, by first | exact ((((Below.refl _ _).alloc (Nat.le_refl _) _).alloc (by simp) _).alloc (by simp; omega) _).drew | exact ((((Below.refl _ _).alloc (Nat.le_refl _) _).alloc (by simp) _).alloc (by simp; omega) _)⟩
set_option maxRecDepth 100000 in
set_option maxHeartbeats 1000000 in
theorem of_hi0 (s0 s1 s2 s3 s4 s5 s6 s7 : Int) (w : World) (t : TypeId) (p : Addr) (hz : 0 < w.heap.size) (hw : w.cell? ⟨0, 0, none⟩ = some (.iface t (.pointer (some p))))  (b : 4294967295 < s0) :
    Calls Tryd.prog 65 #[.agg #[.int .i64 s0, .int .i64 s1, .int .i64 s2, .int .i64 s3, .int .i64 s4, .int .i64 s5, .int .i64 s6, .int .i64 s7]] w fun e w' => e = .returned (.tuple #[.agg #[.int .u32 0, .int .u32 0, .int .u32 0, .int .u32 0, .int .u32 0, .int .u32 0, .int .u32 0, .int .u32 0], .iface t (.pointer (some p))]) ∧ Below w.heap.size w w' := by
  have p0 : 0 ≤ s0 := by omega
  go_enter Tryd.func65, Tryd.ntmps65
  go_wp2
  refine wp_loop_rounds 1 ?_
  iterate 1 (rw [rounds_succ]; go_wp2)
  go_region
  all_goals go_wp2
  all_goals exact bodyPost_ret (v := .tuple #[.agg #[.int .u32 0, .int .u32 0, .int .u32 0, .int .u32 0, .int .u32 0, .int .u32 0, .int .u32 0, .int .u32 0], .iface t (.pointer (some p))]) (by simp [results, Tryd.results65, go_sem]) rfl ⟨rfl, by first | exact ((((Below.refl _ _).alloc (Nat.le_refl _) _).alloc (by simp) _).alloc (by simp; omega) _).drew | exact ((((Below.refl _ _).alloc (Nat.le_refl _) _).alloc (by simp) _).alloc (by simp; omega) _)⟩
set_option maxRecDepth 100000 in
set_option maxHeartbeats 1000000 in
theorem of_lo1 (s0 s1 s2 s3 s4 s5 s6 s7 : Int) (w : World) (t : TypeId) (p : Addr) (hz : 0 < w.heap.size) (hw : w.cell? ⟨0, 0, none⟩ = some (.iface t (.pointer (some p)))) (h0 : 0 ≤ s0) (g0 : s0 ≤ 4294967295) (b : s1 < 0) :
    Calls Tryd.prog 65 #[.agg #[.int .i64 s0, .int .i64 s1, .int .i64 s2, .int .i64 s3, .int .i64 s4, .int .i64 s5, .int .i64 s6, .int .i64 s7]] w fun e w' => e = .returned (.tuple #[.agg #[.int .u32 0, .int .u32 0, .int .u32 0, .int .u32 0, .int .u32 0, .int .u32 0, .int .u32 0, .int .u32 0], .iface t (.pointer (some p))]) ∧ Below w.heap.size w w' := by
  go_enter Tryd.func65, Tryd.ntmps65
  go_wp2
  refine wp_loop_rounds 2 ?_
  iterate 2 (rw [rounds_succ]; go_wp2)
  go_region
  all_goals go_wp2
  all_goals exact bodyPost_ret (v := .tuple #[.agg #[.int .u32 0, .int .u32 0, .int .u32 0, .int .u32 0, .int .u32 0, .int .u32 0, .int .u32 0, .int .u32 0], .iface t (.pointer (some p))]) (by simp [results, Tryd.results65, go_sem]) rfl ⟨rfl, by first | exact ((((Below.refl _ _).alloc (Nat.le_refl _) _).alloc (by simp) _).alloc (by simp; omega) _).drew | exact ((((Below.refl _ _).alloc (Nat.le_refl _) _).alloc (by simp) _).alloc (by simp; omega) _)⟩
set_option maxRecDepth 100000 in
set_option maxHeartbeats 1000000 in
theorem of_hi1 (s0 s1 s2 s3 s4 s5 s6 s7 : Int) (w : World) (t : TypeId) (p : Addr) (hz : 0 < w.heap.size) (hw : w.cell? ⟨0, 0, none⟩ = some (.iface t (.pointer (some p)))) (h0 : 0 ≤ s0) (g0 : s0 ≤ 4294967295) (b : 4294967295 < s1) :
    Calls Tryd.prog 65 #[.agg #[.int .i64 s0, .int .i64 s1, .int .i64 s2, .int .i64 s3, .int .i64 s4, .int .i64 s5, .int .i64 s6, .int .i64 s7]] w fun e w' => e = .returned (.tuple #[.agg #[.int .u32 0, .int .u32 0, .int .u32 0, .int .u32 0, .int .u32 0, .int .u32 0, .int .u32 0, .int .u32 0], .iface t (.pointer (some p))]) ∧ Below w.heap.size w w' := by
  have p1 : 0 ≤ s1 := by omega
  go_enter Tryd.func65, Tryd.ntmps65
  go_wp2
  refine wp_loop_rounds 2 ?_
  iterate 2 (rw [rounds_succ]; go_wp2)
  go_region
  all_goals go_wp2
  all_goals exact bodyPost_ret (v := .tuple #[.agg #[.int .u32 0, .int .u32 0, .int .u32 0, .int .u32 0, .int .u32 0, .int .u32 0, .int .u32 0, .int .u32 0], .iface t (.pointer (some p))]) (by simp [results, Tryd.results65, go_sem]) rfl ⟨rfl, by first | exact ((((Below.refl _ _).alloc (Nat.le_refl _) _).alloc (by simp) _).alloc (by simp; omega) _).drew | exact ((((Below.refl _ _).alloc (Nat.le_refl _) _).alloc (by simp) _).alloc (by simp; omega) _)⟩
set_option maxRecDepth 100000 in
set_option maxHeartbeats 1000000 in
theorem of_lo2 (s0 s1 s2 s3 s4 s5 s6 s7 : Int) (w : World) (t : TypeId) (p : Addr) (hz : 0 < w.heap.size) (hw : w.cell? ⟨0, 0, none⟩ = some (.iface t (.pointer (some p)))) (h0 : 0 ≤ s0) (g0 : s0 ≤ 4294967295) (h1 : 0 ≤ s1) (g1 : s1 ≤ 4294967295) (b : s2 < 0) :
    Calls Tryd.prog 65 #[.agg #[.int .i64 s0, .int .i64 s1, .int .i64 s2, .int .i64 s3, .int .i64 s4, .int .i64 s5, .int .i64 s6, .int .i64 s7]] w fun e w' => e = .returned (.tuple #[.agg #[.int .u32 0, .int .u32 0, .int .u32 0, .int .u32 0, .int .u32 0, .int .u32 0, .int .u32 0, .int .u32 0], .iface t (.pointer (some p))]) ∧ Below w.heap.size w w' := by
  go_enter Tryd.func65, Tryd.ntmps65
  go_wp2
  refine wp_loop_rounds 3 ?_
  iterate 3 (rw [rounds_succ]; go_wp2)
  go_region
  all_goals go_wp2
  all_goals exact bodyPost_ret (v := .tuple #[.agg #[.int .u32 0, .int .u32 0, .int .u32 0, .int .u32 0, .int .u32 0, .int .u32 0, .int .u32 0, .int .u32 0], .iface t (.pointer (some p))]) (by simp [results, Tryd.results65, go_sem]) rfl ⟨rfl, by first | exact ((((Below.refl _ _).alloc (Nat.le_refl _) _).alloc (by simp) _).alloc (by simp; omega) _).drew | exact ((((Below.refl _ _).alloc (Nat.le_refl _) _).alloc (by simp) _).alloc (by simp; omega) _)⟩
set_option maxRecDepth 100000 in
set_option maxHeartbeats 1000000 in
theorem of_hi2 (s0 s1 s2 s3 s4 s5 s6 s7 : Int) (w : World) (t : TypeId) (p : Addr) (hz : 0 < w.heap.size) (hw : w.cell? ⟨0, 0, none⟩ = some (.iface t (.pointer (some p)))) (h0 : 0 ≤ s0) (g0 : s0 ≤ 4294967295) (h1 : 0 ≤ s1) (g1 : s1 ≤ 4294967295) (b : 4294967295 < s2) :
    Calls Tryd.prog 65 #[.agg #[.int .i64 s0, .int .i64 s1, .int .i64 s2, .int .i64 s3, .int .i64 s4, .int .i64 s5, .int .i64 s6, .int .i64 s7]] w fun e w' => e = .returned (.tuple #[.agg #[.int .u32 0, .int .u32 0, .int .u32 0, .int .u32 0, .int .u32 0, .int .u32 0, .int .u32 0, .int .u32 0], .iface t (.pointer (some p))]) ∧ Below w.heap.size w w' := by
  have p2 : 0 ≤ s2 := by omega
  go_enter Tryd.func65, Tryd.ntmps65
  go_wp2
  refine wp_loop_rounds 3 ?_
  iterate 3 (rw [rounds_succ]; go_wp2)
  go_region
  all_goals go_wp2
  all_goals exact bodyPost_ret (v := .tuple #[.agg #[.int .u32 0, .int .u32 0, .int .u32 0, .int .u32 0, .int .u32 0, .int .u32 0, .int .u32 0, .int .u32 0], .iface t (.pointer (some p))]) (by simp [results, Tryd.results65, go_sem]) rfl ⟨rfl, by first | exact ((((Below.refl _ _).alloc (Nat.le_refl _) _).alloc (by simp) _).alloc (by simp; omega) _).drew | exact ((((Below.refl _ _).alloc (Nat.le_refl _) _).alloc (by simp) _).alloc (by simp; omega) _)⟩
set_option maxRecDepth 100000 in
set_option maxHeartbeats 1000000 in
theorem of_lo3 (s0 s1 s2 s3 s4 s5 s6 s7 : Int) (w : World) (t : TypeId) (p : Addr) (hz : 0 < w.heap.size) (hw : w.cell? ⟨0, 0, none⟩ = some (.iface t (.pointer (some p)))) (h0 : 0 ≤ s0) (g0 : s0 ≤ 4294967295) (h1 : 0 ≤ s1) (g1 : s1 ≤ 4294967295) (h2 : 0 ≤ s2) (g2 : s2 ≤ 4294967295) (b : s3 < 0) :
    Calls Tryd.prog 65 #[.agg #[.int .i64 s0, .int .i64 s1, .int .i64 s2, .int .i64 s3, .int .i64 s4, .int .i64 s5, .int .i64 s6, .int .i64 s7]] w fun e w' => e = .returned (.tuple #[.agg #[.int .u32 0, .int .u32 0, .int .u32 0, .int .u32 0, .int .u32 0, .int .u32 0, .int .u32 0, .int .u32 0], .iface t (.pointer (some p))]) ∧ Below w.heap.size w w' := by
  go_enter Tryd.func65, Tryd.ntmps65
  go_wp2
  refine wp_loop_rounds 4 ?_
  iterate 4 (rw [rounds_succ]; go_wp2)
  go_region
  all_goals go_wp2
  all_goals exact bodyPost_ret (v := .tuple #[.agg #[.int .u32 0, .int .u32 0, .int .u32 0, .int .u32 0, .int .u32 0, .int .u32 0, .int .u32 0, .int .u32 0], .iface t (.pointer (some p))]) (by simp [results, Tryd.results65, go_sem]) rfl ⟨rfl, by first | exact ((((Below.refl _ _).alloc (Nat.le_refl _) _).alloc (by simp) _).alloc (by simp; omega) _).drew | exact ((((Below.refl _ _).alloc (Nat.le_refl _) _).alloc (by simp) _).alloc (by simp; omega) _)⟩
set_option maxRecDepth 100000 in
set_option maxHeartbeats 1000000 in
theorem of_hi3 (s0 s1 s2 s3 s4 s5 s6 s7 : Int) (w : World) (t : TypeId) (p : Addr) (hz : 0 < w.heap.size) (hw : w.cell? ⟨0, 0, none⟩ = some (.iface t (.pointer (some p)))) (h0 : 0 ≤ s0) (g0 : s0 ≤ 4294967295) (h1 : 0 ≤ s1) (g1 : s1 ≤ 4294967295) (h2 : 0 ≤ s2) (g2 : s2 ≤ 4294967295) (b : 4294967295 < s3) :
    Calls Tryd.prog 65 #[.agg #[.int .i64 s0, .int .i64 s1, .int .i64 s2, .int .i64 s3, .int .i64 s4, .int .i64 s5, .int .i64 s6, .int .i64 s7]] w fun e w' => e = .returned (.tuple #[.agg #[.int .u32 0, .int .u32 0, .int .u32 0, .int .u32 0, .int .u32 0, .int .u32 0, .int .u32 0, .int .u32 0], .iface t (.pointer (some p))]) ∧ Below w.heap.size w w' := by
  have p3 : 0 ≤ s3 := by omega
  go_enter Tryd.func65, Tryd.ntmps65
  go_wp2
  refine wp_loop_rounds 4 ?_
  iterate 4 (rw [rounds_succ]; go_wp2)
  go_region
  all_goals go_wp2
  all_goals exact bodyPost_ret (v := .tuple #[.agg #[.int .u32 0, .int .u32 0, .int .u32 0, .int .u32 0, .int .u32 0, .int .u32 0, .int .u32 0, .int .u32 0], .iface t (.pointer (some p))]) (by simp [results, Tryd.results65, go_sem]) rfl ⟨rfl, by first | exact ((((Below.refl _ _).alloc (Nat.le_refl _) _).alloc (by simp) _).alloc (by simp; omega) _).drew | exact ((((Below.refl _ _).alloc (Nat.le_refl _) _).alloc (by simp) _).alloc (by simp; omega) _)⟩
set_option maxRecDepth 100000 in
set_option maxHeartbeats 1000000 in
theorem of_lo4 (s0 s1 s2 s3 s4 s5 s6 s7 : Int) (w : World) (t : TypeId) (p : Addr) (hz : 0 < w.heap.size) (hw : w.cell? ⟨0, 0, none⟩ = some (.iface t (.pointer (some p)))) (h0 : 0 ≤ s0) (g0 : s0 ≤ 4294967295) (h1 : 0 ≤ s1) (g1 : s1 ≤ 4294967295) (h2 : 0 ≤ s2) (g2 : s2 ≤ 4294967295) (h3 : 0 ≤ s3) (g3 : s3 ≤ 4294967295) (b : s4 < 0) :
    Calls Tryd.prog 65 #[.agg #[.int .i64 s0, .int .i64 s1, .int .i64 s2, .int .i64 s3, .int .i64 s4, .int .i64 s5, .int .i64 s6, .int .i64 s7]] w fun e w' => e = .returned (.tuple #[.agg #[.int .u32 0, .int .u32 0, .int .u32 0, .int .u32 0, .int .u32 0, .int .u32 0, .int .u32 0, .int .u32 0], .iface t (.pointer (some p))]) ∧ Below w.heap.size w w' := by
  go_enter Tryd.func65, Tryd.ntmps65
  go_wp2
  refine wp_loop_rounds 5 ?_
  iterate 5 (rw [rounds_succ]; go_wp2)
  go_region
  all_goals go_wp2
  all_goals exact bodyPost_ret (v := .tuple #[.agg #[.int .u32 0, .int .u32 0, .int .u32 0, .int .u32 0, .int .u32 0, .int .u32 0, .int .u32 0, .int .u32 0], .iface t (.pointer (some p))]) (by simp [results, Tryd.results65, go_sem]) rfl ⟨rfl, by first | exact ((((Below.refl _ _).alloc (Nat.le_refl _) _).alloc (by simp) _).alloc (by simp; omega) _).drew | exact ((((Below.refl _ _).alloc (Nat.le_refl _) _).alloc (by simp) _).alloc (by simp; omega) _)⟩
set_option maxRecDepth 100000 in
set_option maxHeartbeats 1000000 in
theorem of_hi4 (s0 s1 s2 s3 s4 s5 s6 s7 : Int) (w : World) (t : TypeId) (p : Addr) (hz : 0 < w.heap.size) (hw : w.cell? ⟨0, 0, none⟩ = some (.iface t (.pointer (some p)))) (h0 : 0 ≤ s0) (g0 : s0 ≤ 4294967295) (h1 : 0 ≤ s1) (g1 : s1 ≤ 4294967295) (h2 : 0 ≤ s2) (g2 : s2 ≤ 4294967295) (h3 : 0 ≤ s3) (g3 : s3 ≤ 4294967295) (b : 4294967295 < s4) :
    Calls Tryd.prog 65 #[.agg #[.int .i64 s0, .int .i64 s1, .int .i64 s2, .int .i64 s3, .int .i64 s4, .int .i64 s5, .int .i64 s6, .int .i64 s7]] w fun e w' => e = .returned (.tuple #[.agg #[.int .u32 0, .int .u32 0, .int .u32 0, .int .u32 0, .int .u32 0, .int .u32 0, .int .u32 0, .int .u32 0], .iface t (.pointer (some p))]) ∧ Below w.heap.size w w' := by
  have p4 : 0 ≤ s4 := by omega
  go_enter Tryd.func65, Tryd.ntmps65
  go_wp2
  refine wp_loop_rounds 5 ?_
  iterate 5 (rw [rounds_succ]; go_wp2)
  go_region
  all_goals go_wp2
  all_goals exact bodyPost_ret (v := .tuple #[.agg #[.int .u32 0, .int .u32 0, .int .u32 0, .int .u32 0, .int .u32 0, .int .u32 0, .int .u32 0, .int .u32 0], .iface t (.pointer (some p))]) (by simp [results, Tryd.results65, go_sem]) rfl ⟨rfl, by first | exact ((((Below.refl _ _).alloc (Nat.le_refl _) _).alloc (by simp) _).alloc (by simp; omega) _).drew | exact ((((Below.refl _ _).alloc (Nat.le_refl _) _).alloc (by simp) _).alloc (by simp; omega) _)⟩
set_option maxRecDepth 100000 in
set_option maxHeartbeats 1000000 in
theorem of_lo5 (s0 s1 s2 s3 s4 s5 s6 s7 : Int) (w : World) (t : TypeId) (p : Addr) (hz : 0 < w.heap.size) (hw : w.cell? ⟨0, 0, none⟩ = some (.iface t (.pointer (some p)))) (h0 : 0 ≤ s0) (g0 : s0 ≤ 4294967295) (h1 : 0 ≤ s1) (g1 : s1 ≤ 4294967295) (h2 : 0 ≤ s2) (g2 : s2 ≤ 4294967295) (h3 : 0 ≤ s3) (g3 : s3 ≤ 4294967295) (h4 : 0 ≤ s4) (g4 : s4 ≤ 4294967295) (b : s5 < 0) :
    Calls Tryd.prog 65 #[.agg #[.int .i64 s0, .int .i64 s1, .int .i64 s2, .int .i64 s3, .int .i64 s4, .int .i64 s5, .int .i64 s6, .int .i64 s7]] w fun e w' => e = .returned (.tuple #[.agg #[.int .u32 0, .int .u32 0, .int .u32 0, .int .u32 0, .int .u32 0, .int .u32 0, .int .u32 0, .int .u32 0], .iface t (.pointer (some p))]) ∧ Below w.heap.size w w' := by
  go_enter Tryd.func65, Tryd.ntmps65
  go_wp2
  refine wp_loop_rounds 6 ?_
  iterate 6 (rw [rounds_succ]; go_wp2)
  go_region
  all_goals go_wp2
  all_goals exact bodyPost_ret (v := .tuple #[.agg #[.int .u32 0, .int .u32 0, .int .u32 0, .int .u32 0, .int .u32 0, .int .u32 0, .int .u32 0, .int .u32 0], .iface t (.pointer (some p))]) (by simp [results, Tryd.results65, go_sem]) rfl ⟨rfl, by first | exact ((((Below.refl _ _).alloc (Nat.le_refl _) _).alloc (by simp) _).alloc (by simp; omega) _).drew | exact ((((Below.refl _ _).alloc (Nat.le_refl _) _).alloc (by simp) _).alloc (by simp; omega) _)⟩
set_option maxRecDepth 100000 in
set_option maxHeartbeats 1000000 in
theorem of_hi5 (s0 s1 s2 s3 s4 s5 s6 s7 : Int) (w : World) (t : TypeId) (p : Addr) (hz : 0 < w.heap.size) (hw : w.cell? ⟨0, 0, none⟩ = some (.iface t (.pointer (some p)))) (h0 : 0 ≤ s0) (g0 : s0 ≤ 4294967295) (h1 : 0 ≤ s1) (g1 : s1 ≤ 4294967295) (h2 : 0 ≤ s2) (g2 : s2 ≤ 4294967295) (h3 : 0 ≤ s3) (g3 : s3 ≤ 4294967295) (h4 : 0 ≤ s4) (g4 : s4 ≤ 4294967295) (b : 4294967295 < s5) :
    Calls Tryd.prog 65 #[.agg #[.int .i64 s0, .int .i64 s1, .int .i64 s2, .int .i64 s3, .int .i64 s4, .int .i64 s5, .int .i64 s6, .int .i64 s7]] w fun e w' => e = .returned (.tuple #[.agg #[.int .u32 0, .int .u32 0, .int .u32 0, .int .u32 0, .int .u32 0, .int .u32 0, .int .u32 0, .int .u32 0], .iface t (.pointer (some p))]) ∧ Below w.heap.size w w' := by
  have p5 : 0 ≤ s5 := by omega
  go_enter Tryd.func65, Tryd.ntmps65
  go_wp2
  refine wp_loop_rounds 6 ?_
  iterate 6 (rw [rounds_succ]; go_wp2)
  go_region
  all_goals go_wp2
  all_goals exact bodyPost_ret (v := .tuple #[.agg #[.int .u32 0, .int .u32 0, .int .u32 0, .int .u32 0, .int .u32 0, .int .u32 0, .int .u32 0, .int .u32 0], .iface t (.pointer (some p))]) (by simp [results, Tryd.results65, go_sem]) rfl ⟨rfl, by first | exact ((((Below.refl _ _).alloc (Nat.le_refl _) _).alloc (by simp) _).alloc (by simp; omega) _).drew | exact ((((Below.refl _ _).alloc (Nat.le_refl _) _).alloc (by simp) _).alloc (by simp; omega) _)⟩
set_option maxRecDepth 100000 in
set_option maxHeartbeats 1000000 in
theorem of_lo6 (s0 s1 s2 s3 s4 s5 s6 s7 : Int) (w : World) (t : TypeId) (p : Addr) (hz : 0 < w.heap.size) (hw : w.cell? ⟨0, 0, none⟩ = some (.iface t (.pointer (some p)))) (h0 : 0 ≤ s0) (g0 : s0 ≤ 4294967295) (h1 : 0 ≤ s1) (g1 : s1 ≤ 4294967295) (h2 : 0 ≤ s2) (g2 : s2 ≤ 4294967295) (h3 : 0 ≤ s3) (g3 : s3 ≤ 4294967295) (h4 : 0 ≤ s4) (g4 : s4 ≤ 4294967295) (h5 : 0 ≤ s5) (g5 : s5 ≤ 4294967295) (b : s6 < 0) :
    Calls Tryd.prog 65 #[.agg #[.int .i64 s0, .int .i64 s1, .int .i64 s2, .int .i64 s3, .int .i64 s4, .int .i64 s5, .int .i64 s6, .int .i64 s7]] w fun e w' => e = .returned (.tuple #[.agg #[.int .u32 0, .int .u32 0, .int .u32 0, .int .u32 0, .int .u32 0, .int .u32 0, .int .u32 0, .int .u32 0], .iface t (.pointer (some p))]) ∧ Below w.heap.size w w' := by
  go_enter Tryd.func65, Tryd.ntmps65
  go_wp2
  refine wp_loop_rounds 7 ?_
  iterate 7 (rw [rounds_succ]; go_wp2)
  go_region
  all_goals go_wp2
  all_goals exact bodyPost_ret (v := .tuple #[.agg #[.int .u32 0, .int .u32 0, .int .u32 0, .int .u32 0, .int .u32 0, .int .u32 0, .int .u32 0, .int .u32 0], .iface t (.pointer (some p))]) (by simp [results, Tryd.results65, go_sem]) rfl ⟨rfl, by first | exact ((((Below.refl _ _).alloc (Nat.le_refl _) _).alloc (by simp) _).alloc (by simp; omega) _).drew | exact ((((Below.refl _ _).alloc (Nat.le_refl _) _).alloc (by simp) _).alloc (by simp; omega) _)⟩
set_option maxRecDepth 100000 in
set_option maxHeartbeats 1000000 in
theorem of_hi6 (s0 s1 s2 s3 s4 s5 s6 s7 : Int) (w : World) (t : TypeId) (p : Addr) (hz : 0 < w.heap.size) (hw : w.cell? ⟨0, 0, none⟩ = some (.iface t (.pointer (some p)))) (h0 : 0 ≤ s0) (g0 : s0 ≤ 4294967295) (h1 : 0 ≤ s1) (g1 : s1 ≤ 4294967295) (h2 : 0 ≤ s2) (g2 : s2 ≤ 4294967295) (h3 : 0 ≤ s3) (g3 : s3 ≤ 4294967295) (h4 : 0 ≤ s4) (g4 : s4 ≤ 4294967295) (h5 : 0 ≤ s5) (g5 : s5 ≤ 4294967295) (b : 4294967295 < s6) :
    Calls Tryd.prog 65 #[.agg #[.int .i64 s0, .int .i64 s1, .int .i64 s2, .int .i64 s3, .int .i64 s4, .int .i64 s5, .int .i64 s6, .int .i64 s7]] w fun e w' => e = .returned (.tuple #[.agg #[.int .u32 0, .int .u32 0, .int .u32 0, .int .u32 0, .int .u32 0, .int .u32 0, .int .u32 0, .int .u32 0], .iface t (.pointer (some p))]) ∧ Below w.heap.size w w' := by
  have p6 : 0 ≤ s6 := by omega
  go_enter Tryd.func65, Tryd.ntmps65
  go_wp2
  refine wp_loop_rounds 7 ?_
  iterate 7 (rw [rounds_succ]; go_wp2)
  go_region
  all_goals go_wp2
  all_goals exact bodyPost_ret (v := .tuple #[.agg #[.int .u32 0, .int .u32 0, .int .u32 0, .int .u32 0, .int .u32 0, .int .u32 0, .int .u32 0, .int .u32 0], .iface t (.pointer (some p))]) (by simp [results, Tryd.results65, go_sem]) rfl ⟨rfl, by first | exact ((((Below.refl _ _).alloc (Nat.le_refl _) _).alloc (by simp) _).alloc (by simp; omega) _).drew | exact ((((Below.refl _ _).alloc (Nat.le_refl _) _).alloc (by simp) _).alloc (by simp; omega) _)⟩
set_option maxRecDepth 100000 in
set_option maxHeartbeats 1000000 in
theorem of_lo7 (s0 s1 s2 s3 s4 s5 s6 s7 : Int) (w : World) (t : TypeId) (p : Addr) (hz : 0 < w.heap.size) (hw : w.cell? ⟨0, 0, none⟩ = some (.iface t (.pointer (some p)))) (h0 : 0 ≤ s0) (g0 : s0 ≤ 4294967295) (h1 : 0 ≤ s1) (g1 : s1 ≤ 4294967295) (h2 : 0 ≤ s2) (g2 : s2 ≤ 4294967295) (h3 : 0 ≤ s3) (g3 : s3 ≤ 4294967295) (h4 : 0 ≤ s4) (g4 : s4 ≤ 4294967295) (h5 : 0 ≤ s5) (g5 : s5 ≤ 4294967295) (h6 : 0 ≤ s6) (g6 : s6 ≤ 4294967295) (b : s7 < 0) :
    Calls Tryd.prog 65 #[.agg #[.int .i64 s0, .int .i64 s1, .int .i64 s2, .int .i64 s3, .int .i64 s4, .int .i64 s5, .int .i64 s6, .int .i64 s7]] w fun e w' => e = .returned (.tuple #[.agg #[.int .u32 0, .int .u32 0, .int .u32 0, .int .u32 0, .int .u32 0, .int .u32 0, .int .u32 0, .int .u32 0], .iface t (.pointer (some p))]) ∧ Below w.heap.size w w' := by
  go_enter Tryd.func65, Tryd.ntmps65
  go_wp2
  refine wp_loop_rounds 8 ?_
  iterate 8 (rw [rounds_succ]; go_wp2)
  go_region
  all_goals go_wp2
  all_goals exact bodyPost_ret (v := .tuple #[.agg #[.int .u32 0, .int .u32 0, .int .u32 0, .int .u32 0, .int .u32 0, .int .u32 0, .int .u32 0, .int .u32 0], .iface t (.pointer (some p))]) (by simp [results, Tryd.results65, go_sem]) rfl ⟨rfl, by first | exact ((((Below.refl _ _).alloc (Nat.le_refl _) _).alloc (by simp) _).alloc (by simp; omega) _).drew | exact ((((Below.refl _ _).alloc (Nat.le_refl _) _).alloc (by simp) _).alloc (by simp; omega) _)⟩
set_option maxRecDepth 100000 in
set_option maxHeartbeats 1000000 in
theorem of_hi7 (s0 s1 s2 s3 s4 s5 s6 s7 : Int) (w : World) (t : TypeId) (p : Addr) (hz : 0 < w.heap.size) (hw : w.cell? ⟨0, 0, none⟩ = some (.iface t (.pointer (some p)))) (h0 : 0 ≤ s0) (g0 : s0 ≤ 4294967295) (h1 : 0 ≤ s1) (g1 : s1 ≤ 4294967295) (h2 : 0 ≤ s2) (g2 : s2 ≤ 4294967295) (h3 : 0 ≤ s3) (g3 : s3 ≤ 4294967295) (h4 : 0 ≤ s4) (g4 : s4 ≤ 4294967295) (h5 : 0 ≤ s5) (g5 : s5 ≤ 4294967295) (h6 : 0 ≤ s6) (g6 : s6 ≤ 4294967295) (b : 4294967295 < s7) :
    Calls Tryd.prog 65 #[.agg #[.int .i64 s0, .int .i64 s1, .int .i64 s2, .int .i64 s3, .int .i64 s4, .int .i64 s5, .int .i64 s6, .int .i64 s7]] w fun e w' => e = .returned (.tuple #[.agg #[.int .u32 0, .int .u32 0, .int .u32 0, .int .u32 0, .int .u32 0, .int .u32 0, .int .u32 0, .int .u32 0], .iface t (.pointer (some p))]) ∧ Below w.heap.size w w' := by
  have p7 : 0 ≤ s7 := by omega
  go_enter Tryd.func65, Tryd.ntmps65
  go_wp2
  refine wp_loop_rounds 8 ?_
  iterate 8 (rw [rounds_succ]; go_wp2)
  go_region
  all_goals go_wp2
  all_goals exact bodyPost_ret (v := .tuple #[.agg #[.int .u32 0, .int .u32 0, .int .u32 0, .int .u32 0, .int .u32 0, .int .u32 0, .int .u32 0, .int .u32 0], .iface t (.pointer (some p))]) (by simp [results, Tryd.results65, go_sem]) rfl ⟨rfl, by first | exact ((((Below.refl _ _).alloc (Nat.le_refl _) _).alloc (by simp) _).alloc (by simp; omega) _).drew | exact ((((Below.refl _ _).alloc (Nat.le_refl _) _).alloc (by simp) _).alloc (by simp; omega) _)⟩
end Go.Proofs.YtfafidholldjlaaDoor
/- errors.Is over the program's two sentinels, by its contracts; told, checkBlock. -/
set_option linter.unusedVariables false
set_option linter.unusedSimpArgs false
namespace Go.Proofs.YtfafidholldjlaaDoor
open Go.RowKit Go.Extern.Stop Go.Stop Go.Extern Go.Extern.Rtype
theorem isTypeOf (v : Value) (w : World) : (Extern.ReflectliteType.typeOf #[.iface 174 v]).run Tryd.prog w = .ok (.iface 157 (.agg #[.pointer (some ⟨6, 174, none⟩)])) w := by kernel_rfl
def cmpFn : Array Value → Sem Value := Extern.ReflectliteType.method fun t => do noPackHeld "Comparable" t; pure (.bool (← typeInfo t).comparable)
theorem isComparable (w : World) : (cmpFn #[.agg #[.pointer (some ⟨6, 174, none⟩)]]).run Tryd.prog w = .ok (.bool true) w := by kernel_rfl
theorem callCmp : ∀ args w, (callFunc 139 args).run Tryd.prog w = ((cmpFn args).run Tryd.prog w).andThen fun v w' => .ok (.value v) w' :=
  @run_callFunc_extern Tryd.prog 139 _ cmpFn Tryd.func139 (by kernel_rfl) (by kernel_rfl) (by kernel_rfl) (by kernel_rfl)
theorem callTypeOf : ∀ args w, (callFunc 92 args).run Tryd.prog w = ((Extern.ReflectliteType.typeOf args).run Tryd.prog w).andThen fun v w' => .ok (.value v) w' :=
  @run_callFunc_extern Tryd.prog 92 _ Extern.ReflectliteType.typeOf Tryd.func92 (by kernel_rfl) (by kernel_rfl) (by kernel_rfl) (by kernel_rfl)
theorem isMethodComparable (v : Value) (w : World) : (Go.method 303 157 v "Comparable").run Tryd.prog w = .ok (139, v) w := by kernel_rfl
theorem isComp : (Tryd.prog.info? 174).map (·.comparable) = some true := by kernel_rfl
theorem isSize : (Tryd.prog.info? 192).map (·.size) = some 1 := by kernel_rfl
theorem noIsE (v : Value) (xT : TypeId) (w : World) : (Instr.typeAssert (.iface 174 v) xT 159 true).run Tryd.prog w = .ok (.tuple #[.nilIface, .bool false]) w := run_typeAssert_lacksB Tryd.underlying159 (by kernel_rfl) (by kernel_rfl) v xT w
theorem noUnwrapE (v : Value) (xT : TypeId) (w : World) : (Instr.typeAssert (.iface 174 v) xT 162 true).run Tryd.prog w = .ok (.tuple #[.nilIface, .bool false]) w := run_typeAssert_lacksB Tryd.underlying162 (by kernel_rfl) (by kernel_rfl) v xT w
theorem noUnwrapsE (v : Value) (xT : TypeId) (w : World) : (Instr.typeAssert (.iface 174 v) xT 164 true).run Tryd.prog w = .ok (.tuple #[.nilIface, .bool false]) w := run_typeAssert_lacksB Tryd.underlying164 (by kernel_rfl) (by kernel_rfl) v xT w
-- errors.Is(x, x), x a pointer
set_option maxRecDepth 100000 in
theorem is_same (a : Addr) (w : World) :
    Calls Tryd.prog 81 #[.iface 174 (.pointer (some a)), .iface 174 (.pointer (some a))] w fun e w' => e = .returned (.bool true) ∧ w = w' := by
  obtain ⟨i, hi, hcmp⟩ := Option.map_eq_some_iff.1 isComp
  obtain ⟨j, hj, hjs⟩ := Option.map_eq_some_iff.1 isSize
  have h8 := callTypeOf
  have h32 := callCmp
  have tT := isTypeOf
  have cT := isComparable
  have mR := isMethodComparable
  have heq := run_eql_iface_ptr_same (P := Tryd.prog) w a Tryd.underlying67 Tryd.underlying174 hi hcmp hj
  go_enter Tryd.func81, Tryd.ntmps81
  go_wp2
  refine wp_loop_rounds 1 ?_
  rw [rounds_succ]
  go_wp2
  go_ret
  exact ⟨rfl, rfl⟩
-- errors.Is(x, y), two different pointers: false
set_option maxRecDepth 100000 in
theorem is_other (a b : Addr) (ca cb : Array Value) (ta tb : TypeId) (w : World) (hne : a ≠ b) (ha : w.heap[a.block]? = some (.cells ca ta (0, 0))) (hb : w.heap[b.block]? = some (.cells cb tb (0, 0))) :
    Calls Tryd.prog 81 #[.iface 174 (.pointer (some a)), .iface 174 (.pointer (some b))] w fun e w' => e = .returned (.bool false) ∧ w = w' := by
  obtain ⟨i, hi, hcmp⟩ := Option.map_eq_some_iff.1 isComp
  obtain ⟨j, hj, hjs⟩ := Option.map_eq_some_iff.1 isSize
  have h8 := callTypeOf
  have h32 := callCmp
  have tT := isTypeOf
  have cT := isComparable
  have mR := isMethodComparable
  have nE := noIsE
  have uE := noUnwrapE
  have vE := noUnwrapsE
  have heq := run_eql_iface_ptr_other (P := Tryd.prog) w Tryd.underlying67 Tryd.underlying174 hi hcmp hj (by rw [hjs]; decide) hne ha hb
  go_enter Tryd.func81, Tryd.ntmps81
  go_wp2
  refine wp_loop_rounds 1 ?_
  rw [rounds_succ]
  go_wp2
  go_ret
  exact ⟨rfl, rfl⟩
end Go.Proofs.YtfafidholldjlaaDoor
/- What the listed variables hold, kept by whatever leaves the first blocks alone; told, checkBlock. -/
set_option linter.unusedVariables false
set_option linter.unusedSimpArgs false
namespace Go.Proofs.YtfafidholldjlaaDoor
open Go.RowKit
structure Glob (B : Nat) (aw ab : Addr) (w : World) : Prop where
  word : w.cell? ⟨0, 0, none⟩ = some (.iface 174 (.pointer (some aw)))
  blk : w.cell? ⟨2, 0, none⟩ = some (.iface 174 (.pointer (some ab)))
  const : ∀ i (h : i < 64), w.cell? ⟨3, i, none⟩ = some (.int .u32 ((Sha.K[i]'h : Nat) : Int))
  hw : ∃ c t, w.heap[aw.block]? = some (.cells c t (0, 0))
  hb : ∃ c t, w.heap[ab.block]? = some (.cells c t (0, 0))
  ne : aw ≠ ab
  lw : aw.block < B
  lb : ab.block < B
  six : 6 ≤ B
  size : B ≤ w.heap.size
theorem Glob.below {B : Nat} {aw ab : Addr} {w w' : World} (h : Glob B aw ab w) (hb : Below B w w') : Glob B aw ab w' :=
  have h6 := h.six
  ⟨(hb.cell (p := ⟨0, 0, none⟩) (show (0 : Nat) < B by omega)).trans h.word, (hb.cell (p := ⟨2, 0, none⟩) (show (2 : Nat) < B by omega)).trans h.blk, fun i hi => (hb.cell (p := ⟨3, i, none⟩) (show (3 : Nat) < B by omega)).trans (h.const i hi),
   let ⟨c, t, e⟩ := h.hw; ⟨c, t, (hb.block _ h.lw).trans e⟩, let ⟨c, t, e⟩ := h.hb; ⟨c, t, (hb.block _ h.lb).trans e⟩, h.ne, h.lw, h.lb, h.six, Nat.le_trans h.size hb.size⟩
theorem Glob.pos {B : Nat} {aw ab : Addr} {w : World} (h : Glob B aw ab w) : 6 ≤ w.heap.size := Nat.le_trans h.six h.size
theorem is_nil (b : Addr) (w : World) :
    Calls Tryd.prog 81 #[.nilIface, .iface 174 (.pointer (some b))] w fun e w' => e = .returned (.bool false) ∧ w = w' := by
  have hn := run_eql_iface_nil_left (P := Tryd.prog) w 174 (.pointer (some b)) Tryd.underlying67
  go_enter Tryd.func81, Tryd.ntmps81
  go_wp2
  go_ret
  exact ⟨rfl, rfl⟩
set_option maxRecDepth 100000 in
theorem told_nil {B : Nat} {aw ab : Addr} {w : World} (h : Glob B aw ab w) :
    Calls Tryd.prog 61 #[.nilIface] w fun e w' => e = .returned (.int .i64 0) ∧ w = w' := by
  have h1 := h.word
  have h2 := h.blk
  clear h
  go_enter Tryd.func61, Tryd.ntmps61
  go_wp2_with (go_at_call 81; refine (is_nil _ _).mono ?_; rintro e w' ⟨rfl, rfl⟩)
  go_ret
  exact ⟨rfl, rfl⟩
set_option maxRecDepth 100000 in
theorem told_block {B : Nat} {aw ab : Addr} {w : World} (h : Glob B aw ab w) :
    Calls Tryd.prog 61 #[.iface 174 (.pointer (some ab))] w fun e w' => e = .returned (.int .i64 10) ∧ w = w' := by
  have h1 := h.word
  have h2 := h.blk
  clear h
  go_enter Tryd.func61, Tryd.ntmps61
  go_wp2_with (go_at_call 81; refine (is_same _ _).mono ?_; rintro e w' ⟨rfl, rfl⟩)
  go_ret
  exact ⟨rfl, rfl⟩
set_option maxRecDepth 100000 in
theorem told_word {B : Nat} {aw ab : Addr} {w : World} (h : Glob B aw ab w) :
    Calls Tryd.prog 61 #[.iface 174 (.pointer (some aw))] w fun e w' => e = .returned (.int .i64 11) ∧ w = w' := by
  have h1 := h.word
  have h2 := h.blk
  obtain ⟨cw, tw, hw⟩ := h.hw
  obtain ⟨cb, tb, hb⟩ := h.hb
  have hne := h.ne
  clear h
  have c1 := Lib.hid (is_other aw ab cw cb tw tb w hne hw hb)
  clear hne hw hb
  go_enter Tryd.func61, Tryd.ntmps61
  go_wp2_with fail
  refine c1.out.mono ?_
  rintro e w' ⟨rfl, rfl⟩
  go_wp2_with fail
  refine (is_same _ _).mono ?_
  rintro e w' ⟨rfl, rfl⟩
  go_wp2_with fail
  go_ret
  exact ⟨rfl, rfl⟩
theorem checkBlock_ok (s : ByteArray) (w : World) (hs : s.size = 64) :
    Calls Tryd.prog 60 #[.string s] w fun e w' => e = .returned .nilIface ∧ w = w' := by
  have hb : ((s.size : Int) != 64) = false := by simp [hs]
  clear hs
  go_enter Tryd.func60, Tryd.ntmps60
  go_wp2
  go_ret
  exact ⟨rfl, rfl⟩
theorem checkBlock_bad {B : Nat} {aw ab : Addr} {w : World} (h : Glob B aw ab w) (s : ByteArray) (hs : s.size ≠ 64) :
    Calls Tryd.prog 60 #[.string s] w fun e w' => e = .returned (.iface 174 (.pointer (some ab))) ∧ w = w' := by
  have hb : ((s.size : Int) != 64) = true := by simp; omega
  have h2 := h.blk
  clear hs h
  go_enter Tryd.func60, Tryd.ntmps60
  go_wp2
  go_ret
  exact ⟨rfl, rfl⟩
end Go.Proofs.YtfafidholldjlaaDoor
/- The machine's round. -/
set_option linter.unusedVariables false
set_option linter.unusedSimpArgs false
namespace Go.Proofs.YtfafidholldjlaaDoor
open Go.RowKit
theorem elem73 : (Tryd.prog.info? 73).map (·.size) = some 1 := by kernel_rfl
/-- What a round adds, as the walk spells it. -/
def t1W (s4 s5 s6 s7 kc x : Nat) : Int := IntKind.u32.wrap (IntKind.u32.wrap (IntKind.u32.wrap (IntKind.u32.wrap (s7 + (Sha.turned s4 [6, 11, 25] : Nat)) + bits BinOp.xor IntKind.u32 (bits BinOp.and IntKind.u32 s4 s5) (bits BinOp.and IntKind.u32 (bits BinOp.xor IntKind.u32 IntKind.u32.max s4) s6)) + kc) + x)
def t2W (s0 s1 s2 : Nat) : Int := IntKind.u32.wrap ((Sha.turned s0 [2, 13, 22] : Nat) + bits BinOp.xor IntKind.u32 (bits BinOp.xor IntKind.u32 (bits BinOp.and IntKind.u32 s0 s1) (bits BinOp.and IntKind.u32 s0 s2)) (bits BinOp.and IntKind.u32 s1 s2))
set_option maxRecDepth 100000 in
set_option maxHeartbeats 800000 in
theorem round_walk (b : Nat) (T : TypeId) (s0 s1 s2 s3 s4 s5 s6 s7 : Nat) (i x kc : Nat) (w : World) (h3 : 3 < w.heap.size)
    (hB : w.heap[b]? = some (.cells #[.int .u32 s0, .int .u32 s1, .int .u32 s2, .int .u32 s3, .int .u32 s4, .int .u32 s5, .int .u32 s6, .int .u32 s7] T (0, 0)))
    (hi : i < 64) (hk : w.cell? ⟨3, i, none⟩ = some (.int .u32 kc))
    (hs4 : s4 < 4294967296) (hs0 : s0 < 4294967296) :
    Calls Tryd.prog 66 #[.pointer (some ⟨b, 0, none⟩), .int .i64 (i : Int), .int .u32 (x : Int)] w fun e w' => e = .returned (.tuple #[]) ∧
      w'.heap[b]? = some (.cells #[.int .u32 ((t1W s4 s5 s6 s7 kc x + t2W s0 s1 s2) % 4294967296), .int .u32 s0, .int .u32 s1, .int .u32 s2, .int .u32 ((s3 + t1W s4 s5 s6 s7 kc x) % 4294967296), .int .u32 s4, .int .u32 s5, .int .u32 s6] T (0, 0)) ∧ Far (· = b) w w' := by
  have hi1 : (0 : Int) ≤ (i : Int) := by omega
  have hi2 : (i : Int) < 64 := by omega
  have hb : b < w.heap.size := lt_of_heap hB
  have c0 : w.cell? ⟨b, 0, none⟩ = some (.int .u32 s0) := cell_of hB 0
  have c1 : w.cell? ⟨b, 1, none⟩ = some (.int .u32 s1) := cell_of hB 1
  have c2 : w.cell? ⟨b, 2, none⟩ = some (.int .u32 s2) := cell_of hB 2
  have c3 : w.cell? ⟨b, 3, none⟩ = some (.int .u32 s3) := cell_of hB 3
  have c4 : w.cell? ⟨b, 4, none⟩ = some (.int .u32 s4) := cell_of hB 4
  have c5 : w.cell? ⟨b, 5, none⟩ = some (.int .u32 s5) := cell_of hB 5
  have c6 : w.cell? ⟨b, 6, none⟩ = some (.int .u32 s6) := cell_of hB 6
  have c7 : w.cell? ⟨b, 7, none⟩ = some (.int .u32 s7) := cell_of hB 7
  have HB := Lib.hid hB
  clear hB
  go_enter Tryd.func66, Tryd.ntmps66
  go_wp2_with fail
  go_quiet (fail)
  go_wp2_with fail
  go_region_held3 (fun w' => w'.cell? ⟨w.heap.size, 7, none⟩ = some (.int .u32 s7) ∧ w'.cell? ⟨w.heap.size, 5, none⟩ = some (.int .u32 s5) ∧ w'.cell? ⟨w.heap.size, 6, none⟩ = some (.int .u32 s6) ∧ w'.cell? ⟨3, i, none⟩ = some (.int .u32 kc)) (go_keep) (first | (go_at_call 83; refine (turned_e s4 _ _ _ hs4 ?_ ?_ ?_).mono ?_; (go_simp); (go_simp); (go_simp); rintro e w1 ⟨rfl, rfl⟩))
  rename_i hsg
  clear hsg
  go_wp2_with fail
  generalize hT : IntKind.u32.wrap (IntKind.u32.wrap (IntKind.u32.wrap (IntKind.u32.wrap (s7 + (Sha.turned s4 [6, 11, 25] : Nat)) + bits BinOp.xor IntKind.u32 (bits BinOp.and IntKind.u32 s4 s5) (bits BinOp.and IntKind.u32 (bits BinOp.xor IntKind.u32 IntKind.u32.max s4) s6)) + kc) + x) = T1
  have HT := Lib.hid hT
  clear hT
  go_region_held3 (fun w' => w'.cell? ⟨w.heap.size, 1, none⟩ = some (.int .u32 s1) ∧ w'.cell? ⟨w.heap.size, 2, none⟩ = some (.int .u32 s2)) (go_keep) (first | (go_at_call 83; refine (turned_a s0 _ _ _ hs0 ?_ ?_ ?_).mono ?_; (go_simp); (go_simp); (go_simp); rintro e w1 ⟨rfl, rfl⟩))
  go_wp2_with fail
  generalize hT2 : IntKind.u32.wrap ((Sha.turned s0 [2, 13, 22] : Nat) + bits BinOp.xor IntKind.u32 (bits BinOp.xor IntKind.u32 (bits BinOp.and IntKind.u32 s0 s1) (bits BinOp.and IntKind.u32 s0 s2)) (bits BinOp.and IntKind.u32 s1 s2)) = T2
  have HT2 := Lib.hid hT2
  clear hT2
  generalize hW : World.drew _ = W
  have hgr : Far (· = b) w W := by rw [← hW]; exact (((((Far.refl _ _).alloc _).drewN _).alloc _).alloc _).drew
  have hgr1 : Below (w.heap.size + 1) (w.alloc (.cells #[.int .u32 s0, .int .u32 s1, .int .u32 s2, .int .u32 s3, .int .u32 s4, .int .u32 s5, .int .u32 s6, .int .u32 s7] 78)) W := by rw [← hW]; exact (((below_drewN (Below.refl _ _) _).alloc (by simp) _).alloc (by simp) _).drew
  have hBW : W.heap[b]? = some (.cells #[.int .u32 s0, .int .u32 s1, .int .u32 s2, .int .u32 s3, .int .u32 s4, .int .u32 s5, .int .u32 s6, .int .u32 s7] T (0, 0)) := by rw [← hW]; exact alloc_heap_old _ (alloc_heap_old _ (alloc_heap_old _ HB.out))
  have n0 : W.cell? ⟨w.heap.size, 0, none⟩ = some (.int .u32 s0) := (hgr1.cell (p := ⟨w.heap.size, 0, none⟩) (Nat.lt_succ_self _)).trans (World.cell?_alloc_new _ _ _ _)
  have n1 : W.cell? ⟨w.heap.size, 1, none⟩ = some (.int .u32 s1) := (hgr1.cell (p := ⟨w.heap.size, 1, none⟩) (Nat.lt_succ_self _)).trans (World.cell?_alloc_new _ _ _ _)
  have n2 : W.cell? ⟨w.heap.size, 2, none⟩ = some (.int .u32 s2) := (hgr1.cell (p := ⟨w.heap.size, 2, none⟩) (Nat.lt_succ_self _)).trans (World.cell?_alloc_new _ _ _ _)
  have n3 : W.cell? ⟨w.heap.size, 3, none⟩ = some (.int .u32 s3) := (hgr1.cell (p := ⟨w.heap.size, 3, none⟩) (Nat.lt_succ_self _)).trans (World.cell?_alloc_new _ _ _ _)
  have n4 : W.cell? ⟨w.heap.size, 4, none⟩ = some (.int .u32 s4) := (hgr1.cell (p := ⟨w.heap.size, 4, none⟩) (Nat.lt_succ_self _)).trans (World.cell?_alloc_new _ _ _ _)
  have n5 : W.cell? ⟨w.heap.size, 5, none⟩ = some (.int .u32 s5) := (hgr1.cell (p := ⟨w.heap.size, 5, none⟩) (Nat.lt_succ_self _)).trans (World.cell?_alloc_new _ _ _ _)
  have n6 : W.cell? ⟨w.heap.size, 6, none⟩ = some (.int .u32 s6) := (hgr1.cell (p := ⟨w.heap.size, 6, none⟩) (Nat.lt_succ_self _)).trans (World.cell?_alloc_new _ _ _ _)
  have n7 : W.cell? ⟨w.heap.size, 7, none⟩ = some (.int .u32 s7) := (hgr1.cell (p := ⟨w.heap.size, 7, none⟩) (Nat.lt_succ_self _)).trans (World.cell?_alloc_new _ _ _ _)
  have hsz : w.heap.size < W.heap.size := Nat.lt_of_lt_of_le (by simp) hgr1.size
  have hbW : b < W.heap.size := by omega
  have hcopy : (Builtin.copy_ #[111, 111] 3 #[.slice (some ⟨b, 1, none⟩) 7 7, .slice (some ⟨w.heap.size, 0, none⟩) 7 8]).run Tryd.prog W.drew = .ok (.int .i64 7) (W.drew.setRow b #[.int .u32 s0, .int .u32 s0, .int .u32 s1, .int .u32 s2, .int .u32 s3, .int .u32 s4, .int .u32 s5, .int .u32 s6]) := by
    refine run_copy_row (P := Tryd.prog) W.drew 111 111 3 73 b 1 7 7 ⟨w.heap.size, 0, none⟩ 7 8 #[.int .u32 s0, .int .u32 s1, .int .u32 s2, .int .u32 s3, .int .u32 s4, .int .u32 s5, .int .u32 s6, .int .u32 s7] T [.int .u32 s0, .int .u32 s1, .int .u32 s2, .int .u32 s3, .int .u32 s4, .int .u32 s5, .int .u32 s6] Tryd.underlying111 elem73 hBW rfl ?_ (by simp) ?_
    · intro j v hj
      match j, hj with
      | 0, hj => cases hj; exact n0
      | 1, hj => cases hj; exact n1
      | 2, hj => cases hj; exact n2
      | 3, hj => cases hj; exact n3
      | 4, hj => cases hj; exact n4
      | 5, hj => cases hj; exact n5
      | 6, hj => cases hj; exact n6
      | n + 7, hj => cases hj
    · simp [Value.oneCell']
  have hr : (W.drew.setRow b #[.int .u32 s0, .int .u32 s0, .int .u32 s1, .int .u32 s2, .int .u32 s3, .int .u32 s4, .int .u32 s5, .int .u32 s6]).heap[b]? = some (.cells #[.int .u32 s0, .int .u32 s0, .int .u32 s1, .int .u32 s2, .int .u32 s3, .int .u32 s4, .int .u32 s5, .int .u32 s6] T (0, 0)) := setRow_heap _ _ _ _ _ _ hBW
  have HC := Lib.hid hcopy
  clear hW hgr1 hcopy c0 c1 c2 c3 c4 c5 c6 c7 hk hBW
  have hne : w.heap.size ≠ b := by omega
  have hm3 : (W.drew.setRow b #[.int .u32 s0, .int .u32 s0, .int .u32 s1, .int .u32 s2, .int .u32 s3, .int .u32 s4, .int .u32 s5, .int .u32 s6]).cell? ⟨w.heap.size, 3, none⟩ = some (.int .u32 s3) := (cell_setRow_other W.drew b _ ⟨w.heap.size, 3, none⟩ hne).trans n3
  have hgr2 : Far (· = b) w (W.drew.setRow b #[.int .u32 s0, .int .u32 s0, .int .u32 s1, .int .u32 s2, .int .u32 s3, .int .u32 s4, .int .u32 s5, .int .u32 s6]) := hgr.drew.setRow (fun _ => rfl) _
  clear n0 n1 n2 n3 n4 n5 n6 n7 hgr
  have hsz2 : w.heap.size < (W.drew.setRow b #[.int .u32 s0, .int .u32 s0, .int .u32 s1, .int .u32 s2, .int .u32 s3, .int .u32 s4, .int .u32 s5, .int .u32 s6]).heap.size := by simpa using hsz
  generalize hX : W.drew.setRow b #[.int .u32 s0, .int .u32 s0, .int .u32 s1, .int .u32 s2, .int .u32 s3, .int .u32 s4, .int .u32 s5, .int .u32 s6] = X at HC hr hm3 hgr2 hsz2
  clear hX
  have hcp := HC.out
  clear HC
  go_region
  clear hcp
  have e0 : X.cell? ⟨b, 0, none⟩ = some (.int .u32 s0) := cell_of hr 0
  have e4 : X.cell? ⟨b, 4, none⟩ = some (.int .u32 s3) := cell_of hr 4
  have f0 : X.frozen? ⟨b, 0, none⟩ = false := frozen_of hr 0
  have f4 : X.frozen? ⟨b, 4, none⟩ = false := frozen_of hr 4
  go_wp2_with fail
  go_region
  go_end0
  refine ⟨rfl, ?_, ((hgr2.setCell (fun _ => rfl) _).setCell (fun _ => rfl) _).drew⟩
  have e1 : t1W s4 s5 s6 s7 kc x = T1 := HT.out
  have e2 : t2W s0 s1 s2 = T2 := HT2.out
  rw [e1, e2]
  exact setCell_heap (setCell_heap hr 0 _) 4 _
end Go.Proofs.YtfafidholldjlaaDoor
/- The state's told and add. -/
set_option linter.unusedVariables false
set_option linter.unusedSimpArgs false
namespace Go.Proofs.YtfafidholldjlaaDoor
open Go.RowKit
theorem setCell_drewN (w : World) (n : Nat) (a : Addr) (v : Value) : (w.drewN n).setCell a v = (w.setCell a v).drewN n := rfl
attribute [local go_sem] setCell_drewN
theorem drew_heap (w : World) : w.drew.heap = w.heap := rfl
set_option maxRecDepth 100000 in
set_option maxHeartbeats 1600000 in
theorem told_state (b : Nat) (T : TypeId) (s0 s1 s2 s3 s4 s5 s6 s7 : Nat) (w : World) (hB : w.heap[b]? = some (.cells #[.int .u32 s0, .int .u32 s1, .int .u32 s2, .int .u32 s3, .int .u32 s4, .int .u32 s5, .int .u32 s6, .int .u32 s7] T (0, 0)))
    (l0 : s0 < 4294967296) (l1 : s1 < 4294967296) (l2 : s2 < 4294967296) (l3 : s3 < 4294967296) (l4 : s4 < 4294967296) (l5 : s5 < 4294967296) (l6 : s6 < 4294967296) (l7 : s7 < 4294967296) :
    Calls Tryd.prog 67 #[.pointer (some ⟨b, 0, none⟩)] w fun e w' => e = .returned (.agg #[.int .i64 s0, .int .i64 s1, .int .i64 s2, .int .i64 s3, .int .i64 s4, .int .i64 s5, .int .i64 s6, .int .i64 s7]) ∧ Far NoneD w w' := by
  have hb : b < w.heap.size := lt_of_heap hB
  have c0 : w.cell? ⟨b, 0, none⟩ = some (.int .u32 s0) := cell_of hB 0
  have c1 : w.cell? ⟨b, 1, none⟩ = some (.int .u32 s1) := cell_of hB 1
  have c2 : w.cell? ⟨b, 2, none⟩ = some (.int .u32 s2) := cell_of hB 2
  have c3 : w.cell? ⟨b, 3, none⟩ = some (.int .u32 s3) := cell_of hB 3
  have c4 : w.cell? ⟨b, 4, none⟩ = some (.int .u32 s4) := cell_of hB 4
  have c5 : w.cell? ⟨b, 5, none⟩ = some (.int .u32 s5) := cell_of hB 5
  have c6 : w.cell? ⟨b, 6, none⟩ = some (.int .u32 s6) := cell_of hB 6
  have c7 : w.cell? ⟨b, 7, none⟩ = some (.int .u32 s7) := cell_of hB 7
  clear hB
  go_enter Tryd.func67, Tryd.ntmps67
  go_wp2
  refine wp_loop_rounds 9 ?_
  iterate 8 (rw [rounds_succ]; go_wp2_with fail; go_quiet (fail); go_wp2_with fail)
  rw [rounds_succ]
  go_wp2
  exact bodyPost_ret (v := .agg #[.int .i64 s0, .int .i64 s1, .int .i64 s2, .int .i64 s3, .int .i64 s4, .int .i64 s5, .int .i64 s6, .int .i64 s7]) (by simp [results, Tryd.results67, go_sem]) rfl ⟨rfl, (((Far.refl _ _).alloc _).alloc _).drewN _⟩
set_option maxRecDepth 100000 in
set_option maxHeartbeats 3200000 in
theorem add_state (b : Nat) (T : TypeId) (s0 s1 s2 s3 s4 s5 s6 s7 : Nat) (t0 t1 t2 t3 t4 t5 t6 t7 : Nat) (w : World) (hB : w.heap[b]? = some (.cells #[.int .u32 s0, .int .u32 s1, .int .u32 s2, .int .u32 s3, .int .u32 s4, .int .u32 s5, .int .u32 s6, .int .u32 s7] T (0, 0))) :
    Calls Tryd.prog 69 #[.pointer (some ⟨b, 0, none⟩), .agg #[.int .u32 t0, .int .u32 t1, .int .u32 t2, .int .u32 t3, .int .u32 t4, .int .u32 t5, .int .u32 t6, .int .u32 t7]] w fun e w' => e = .returned (.tuple #[]) ∧ w'.heap[b]? = some (.cells #[.int .u32 (((s0 : Int) + (t0 : Int)) % 4294967296), .int .u32 (((s1 : Int) + (t1 : Int)) % 4294967296), .int .u32 (((s2 : Int) + (t2 : Int)) % 4294967296), .int .u32 (((s3 : Int) + (t3 : Int)) % 4294967296), .int .u32 (((s4 : Int) + (t4 : Int)) % 4294967296), .int .u32 (((s5 : Int) + (t5 : Int)) % 4294967296), .int .u32 (((s6 : Int) + (t6 : Int)) % 4294967296), .int .u32 (((s7 : Int) + (t7 : Int)) % 4294967296)] T (0, 0)) ∧ Far (· = b) w w' := by
  have hb : b < w.heap.size := lt_of_heap hB
  have c0 : w.cell? ⟨b, 0, none⟩ = some (.int .u32 s0) := cell_of hB 0
  have f0 : w.frozen? ⟨b, 0, none⟩ = false := frozen_of hB 0
  have c1 : w.cell? ⟨b, 1, none⟩ = some (.int .u32 s1) := cell_of hB 1
  have f1 : w.frozen? ⟨b, 1, none⟩ = false := frozen_of hB 1
  have c2 : w.cell? ⟨b, 2, none⟩ = some (.int .u32 s2) := cell_of hB 2
  have f2 : w.frozen? ⟨b, 2, none⟩ = false := frozen_of hB 2
  have c3 : w.cell? ⟨b, 3, none⟩ = some (.int .u32 s3) := cell_of hB 3
  have f3 : w.frozen? ⟨b, 3, none⟩ = false := frozen_of hB 3
  have c4 : w.cell? ⟨b, 4, none⟩ = some (.int .u32 s4) := cell_of hB 4
  have f4 : w.frozen? ⟨b, 4, none⟩ = false := frozen_of hB 4
  have c5 : w.cell? ⟨b, 5, none⟩ = some (.int .u32 s5) := cell_of hB 5
  have f5 : w.frozen? ⟨b, 5, none⟩ = false := frozen_of hB 5
  have c6 : w.cell? ⟨b, 6, none⟩ = some (.int .u32 s6) := cell_of hB 6
  have f6 : w.frozen? ⟨b, 6, none⟩ = false := frozen_of hB 6
  have c7 : w.cell? ⟨b, 7, none⟩ = some (.int .u32 s7) := cell_of hB 7
  have f7 : w.frozen? ⟨b, 7, none⟩ = false := frozen_of hB 7
  have hne : w.heap.size ≠ b := by omega
  have HB := Lib.hid hB
  clear hB
  go_enter Tryd.func69, Tryd.ntmps69
  go_wp2
  refine wp_loop_rounds 9 ?_
  iterate 8 (rw [rounds_succ]; go_wp2_with fail; go_region; go_wp2_with fail)
  rw [rounds_succ]
  go_wp2
  go_end0
  have q0 : (w.setCell ⟨b, 0, none⟩ (.int .u32 (((s0 : Int) + (t0 : Int)) % 4294967296))).heap[b]? = some (.cells #[(.int .u32 (((s0 : Int) + (t0 : Int)) % 4294967296)), .int .u32 s1, .int .u32 s2, .int .u32 s3, .int .u32 s4, .int .u32 s5, .int .u32 s6, .int .u32 s7] T (0, 0)) := setCell_heap HB.out 0 _
  have q1 : ((w.setCell ⟨b, 0, none⟩ (.int .u32 (((s0 : Int) + (t0 : Int)) % 4294967296))).setCell ⟨b, 1, none⟩ (.int .u32 (((s1 : Int) + (t1 : Int)) % 4294967296))).heap[b]? = some (.cells #[(.int .u32 (((s0 : Int) + (t0 : Int)) % 4294967296)), (.int .u32 (((s1 : Int) + (t1 : Int)) % 4294967296)), .int .u32 s2, .int .u32 s3, .int .u32 s4, .int .u32 s5, .int .u32 s6, .int .u32 s7] T (0, 0)) := setCell_heap q0 1 _
  have q2 : (((w.setCell ⟨b, 0, none⟩ (.int .u32 (((s0 : Int) + (t0 : Int)) % 4294967296))).setCell ⟨b, 1, none⟩ (.int .u32 (((s1 : Int) + (t1 : Int)) % 4294967296))).setCell ⟨b, 2, none⟩ (.int .u32 (((s2 : Int) + (t2 : Int)) % 4294967296))).heap[b]? = some (.cells #[(.int .u32 (((s0 : Int) + (t0 : Int)) % 4294967296)), (.int .u32 (((s1 : Int) + (t1 : Int)) % 4294967296)), (.int .u32 (((s2 : Int) + (t2 : Int)) % 4294967296)), .int .u32 s3, .int .u32 s4, .int .u32 s5, .int .u32 s6, .int .u32 s7] T (0, 0)) := setCell_heap q1 2 _
  have q3 : ((((w.setCell ⟨b, 0, none⟩ (.int .u32 (((s0 : Int) + (t0 : Int)) % 4294967296))).setCell ⟨b, 1, none⟩ (.int .u32 (((s1 : Int) + (t1 : Int)) % 4294967296))).setCell ⟨b, 2, none⟩ (.int .u32 (((s2 : Int) + (t2 : Int)) % 4294967296))).setCell ⟨b, 3, none⟩ (.int .u32 (((s3 : Int) + (t3 : Int)) % 4294967296))).heap[b]? = some (.cells #[(.int .u32 (((s0 : Int) + (t0 : Int)) % 4294967296)), (.int .u32 (((s1 : Int) + (t1 : Int)) % 4294967296)), (.int .u32 (((s2 : Int) + (t2 : Int)) % 4294967296)), (.int .u32 (((s3 : Int) + (t3 : Int)) % 4294967296)), .int .u32 s4, .int .u32 s5, .int .u32 s6, .int .u32 s7] T (0, 0)) := setCell_heap q2 3 _
  have q4 : (((((w.setCell ⟨b, 0, none⟩ (.int .u32 (((s0 : Int) + (t0 : Int)) % 4294967296))).setCell ⟨b, 1, none⟩ (.int .u32 (((s1 : Int) + (t1 : Int)) % 4294967296))).setCell ⟨b, 2, none⟩ (.int .u32 (((s2 : Int) + (t2 : Int)) % 4294967296))).setCell ⟨b, 3, none⟩ (.int .u32 (((s3 : Int) + (t3 : Int)) % 4294967296))).setCell ⟨b, 4, none⟩ (.int .u32 (((s4 : Int) + (t4 : Int)) % 4294967296))).heap[b]? = some (.cells #[(.int .u32 (((s0 : Int) + (t0 : Int)) % 4294967296)), (.int .u32 (((s1 : Int) + (t1 : Int)) % 4294967296)), (.int .u32 (((s2 : Int) + (t2 : Int)) % 4294967296)), (.int .u32 (((s3 : Int) + (t3 : Int)) % 4294967296)), (.int .u32 (((s4 : Int) + (t4 : Int)) % 4294967296)), .int .u32 s5, .int .u32 s6, .int .u32 s7] T (0, 0)) := setCell_heap q3 4 _
  have q5 : ((((((w.setCell ⟨b, 0, none⟩ (.int .u32 (((s0 : Int) + (t0 : Int)) % 4294967296))).setCell ⟨b, 1, none⟩ (.int .u32 (((s1 : Int) + (t1 : Int)) % 4294967296))).setCell ⟨b, 2, none⟩ (.int .u32 (((s2 : Int) + (t2 : Int)) % 4294967296))).setCell ⟨b, 3, none⟩ (.int .u32 (((s3 : Int) + (t3 : Int)) % 4294967296))).setCell ⟨b, 4, none⟩ (.int .u32 (((s4 : Int) + (t4 : Int)) % 4294967296))).setCell ⟨b, 5, none⟩ (.int .u32 (((s5 : Int) + (t5 : Int)) % 4294967296))).heap[b]? = some (.cells #[(.int .u32 (((s0 : Int) + (t0 : Int)) % 4294967296)), (.int .u32 (((s1 : Int) + (t1 : Int)) % 4294967296)), (.int .u32 (((s2 : Int) + (t2 : Int)) % 4294967296)), (.int .u32 (((s3 : Int) + (t3 : Int)) % 4294967296)), (.int .u32 (((s4 : Int) + (t4 : Int)) % 4294967296)), (.int .u32 (((s5 : Int) + (t5 : Int)) % 4294967296)), .int .u32 s6, .int .u32 s7] T (0, 0)) := setCell_heap q4 5 _
  have q6 : (((((((w.setCell ⟨b, 0, none⟩ (.int .u32 (((s0 : Int) + (t0 : Int)) % 4294967296))).setCell ⟨b, 1, none⟩ (.int .u32 (((s1 : Int) + (t1 : Int)) % 4294967296))).setCell ⟨b, 2, none⟩ (.int .u32 (((s2 : Int) + (t2 : Int)) % 4294967296))).setCell ⟨b, 3, none⟩ (.int .u32 (((s3 : Int) + (t3 : Int)) % 4294967296))).setCell ⟨b, 4, none⟩ (.int .u32 (((s4 : Int) + (t4 : Int)) % 4294967296))).setCell ⟨b, 5, none⟩ (.int .u32 (((s5 : Int) + (t5 : Int)) % 4294967296))).setCell ⟨b, 6, none⟩ (.int .u32 (((s6 : Int) + (t6 : Int)) % 4294967296))).heap[b]? = some (.cells #[(.int .u32 (((s0 : Int) + (t0 : Int)) % 4294967296)), (.int .u32 (((s1 : Int) + (t1 : Int)) % 4294967296)), (.int .u32 (((s2 : Int) + (t2 : Int)) % 4294967296)), (.int .u32 (((s3 : Int) + (t3 : Int)) % 4294967296)), (.int .u32 (((s4 : Int) + (t4 : Int)) % 4294967296)), (.int .u32 (((s5 : Int) + (t5 : Int)) % 4294967296)), (.int .u32 (((s6 : Int) + (t6 : Int)) % 4294967296)), .int .u32 s7] T (0, 0)) := setCell_heap q5 6 _
  have q7 : ((((((((w.setCell ⟨b, 0, none⟩ (.int .u32 (((s0 : Int) + (t0 : Int)) % 4294967296))).setCell ⟨b, 1, none⟩ (.int .u32 (((s1 : Int) + (t1 : Int)) % 4294967296))).setCell ⟨b, 2, none⟩ (.int .u32 (((s2 : Int) + (t2 : Int)) % 4294967296))).setCell ⟨b, 3, none⟩ (.int .u32 (((s3 : Int) + (t3 : Int)) % 4294967296))).setCell ⟨b, 4, none⟩ (.int .u32 (((s4 : Int) + (t4 : Int)) % 4294967296))).setCell ⟨b, 5, none⟩ (.int .u32 (((s5 : Int) + (t5 : Int)) % 4294967296))).setCell ⟨b, 6, none⟩ (.int .u32 (((s6 : Int) + (t6 : Int)) % 4294967296))).setCell ⟨b, 7, none⟩ (.int .u32 (((s7 : Int) + (t7 : Int)) % 4294967296))).heap[b]? = some (.cells #[(.int .u32 (((s0 : Int) + (t0 : Int)) % 4294967296)), (.int .u32 (((s1 : Int) + (t1 : Int)) % 4294967296)), (.int .u32 (((s2 : Int) + (t2 : Int)) % 4294967296)), (.int .u32 (((s3 : Int) + (t3 : Int)) % 4294967296)), (.int .u32 (((s4 : Int) + (t4 : Int)) % 4294967296)), (.int .u32 (((s5 : Int) + (t5 : Int)) % 4294967296)), (.int .u32 (((s6 : Int) + (t6 : Int)) % 4294967296)), (.int .u32 (((s7 : Int) + (t7 : Int)) % 4294967296))] T (0, 0)) := setCell_heap q6 7 _
  refine ⟨rfl, ?_, ?_⟩
  · simp only [drew_heap]
    exact alloc_heap_old _ q7
  · iterate 8 refine Far.drew ?_
    refine Far.alloc ?_ _
    iterate 8 (refine Far.setCell ?_ ?_ _; rotate_left; (intro _; rfl))
    exact Far.refl _ _

end Go.Proofs.YtfafidholldjlaaDoor
