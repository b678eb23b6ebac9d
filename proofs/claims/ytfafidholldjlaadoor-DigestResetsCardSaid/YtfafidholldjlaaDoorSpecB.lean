/- The rounds of SHA-256 on a state of eight words: no program in sight. -/
import Derived.Test.YtfafidholldjlaaDoorSpec
set_option linter.unusedVariables false
set_option linter.unusedSimpArgs false
namespace Sha
structure St where
  a : Nat
  b : Nat
  c : Nat
  d : Nat
  e : Nat
  f : Nat
  g : Nat
  h : Nat
def St.ok (s : St) : Prop := s.a < 4294967296 ∧ s.b < 4294967296 ∧ s.c < 4294967296 ∧ s.d < 4294967296 ∧ s.e < 4294967296 ∧ s.f < 4294967296 ∧ s.g < 4294967296 ∧ s.h < 4294967296
def St.zero : St := ⟨0, 0, 0, 0, 0, 0, 0, 0⟩
def ch (e f g : Nat) : Nat := (e &&& f) ^^^ ((4294967295 - e) &&& g)
def maj (a b c : Nat) : Nat := ((a &&& b) ^^^ (a &&& c)) ^^^ (b &&& c)
def t1 (s : St) (k w : Nat) : Nat := (s.h + turned s.e [6, 11, 25] + ch s.e s.f s.g + k + w) % 4294967296
def t2 (s : St) : Nat := (turned s.a [2, 13, 22] + maj s.a s.b s.c) % 4294967296
def St.round (s : St) (k w : Nat) : St := ⟨(t1 s k w + t2 s) % 4294967296, s.a, s.b, s.c, (s.d + t1 s k w) % 4294967296, s.e, s.f, s.g⟩
def St.add (s t : St) : St := ⟨(s.a + t.a) % 4294967296, (s.b + t.b) % 4294967296, (s.c + t.c) % 4294967296, (s.d + t.d) % 4294967296, (s.e + t.e) % 4294967296, (s.f + t.f) % 4294967296, (s.g + t.g) % 4294967296, (s.h + t.h) % 4294967296⟩
theorem St.round_ok {s : St} (hs : s.ok) (k w : Nat) : (s.round k w).ok := by
  obtain ⟨h0, h1, h2, h3, h4, h5, h6, h7⟩ := hs
  exact ⟨Nat.mod_lt _ (by decide), h0, h1, h2, Nat.mod_lt _ (by decide), h4, h5, h6⟩
theorem St.add_ok (s t : St) : (s.add t).ok := ⟨Nat.mod_lt _ (by decide), Nat.mod_lt _ (by decide), Nat.mod_lt _ (by decide), Nat.mod_lt _ (by decide), Nat.mod_lt _ (by decide), Nat.mod_lt _ (by decide), Nat.mod_lt _ (by decide), Nat.mod_lt _ (by decide)⟩
theorem St.add_zero {s : St} (hs : s.ok) : St.zero.add s = s := by
  obtain ⟨h0, h1, h2, h3, h4, h5, h6, h7⟩ := hs
  cases s
  simp only [St.add, St.zero, Nat.zero_add] at *
  rw [Nat.mod_eq_of_lt h0, Nat.mod_eq_of_lt h1, Nat.mod_eq_of_lt h2, Nat.mod_eq_of_lt h3, Nat.mod_eq_of_lt h4, Nat.mod_eq_of_lt h5, Nat.mod_eq_of_lt h6, Nat.mod_eq_of_lt h7]
/-- The constants of rounds, as the document has them. -/
def K : List Nat := [1116352408, 1899447441, 3049323471, 3921009573, 961987163, 1508970993, 2453635748, 2870763221, 3624381080, 310598401, 607225278, 1426881987, 1925078388, 2162078206, 2614888103, 3248222580, 3835390401, 4022224774, 264347078, 604807628, 770255983, 1249150122, 1555081692, 1996064986, 2554220882, 2821834349, 2952996808, 3210313671, 3336571891, 3584528711, 113926993, 338241895, 666307205, 773529912, 1294757372, 1396182291, 1695183700, 1986661051, 2177026350, 2456956037, 2730485921, 2820302411, 3259730800, 3345764771, 3516065817, 3600352804, 4094571909, 275423344, 430227734, 506948616, 659060556, 883997877, 958139571, 1322822218, 1537002063, 1747873779, 1955562222, 2024104815, 2227730452, 2361852424, 2428436474, 2756734187, 3204031479, 3329325298]
/-- The state after t rounds of a block. -/
def St.rounds (s : St) (b : Nat → Nat) : Nat → St
  | 0 => s
  | t + 1 => (St.rounds s b t).round (K.getD t 0) (word b t)
theorem St.rounds_ok {s : St} (hs : s.ok) (b : Nat → Nat) : ∀ t, (s.rounds b t).ok
  | 0 => hs
  | t + 1 => St.round_ok (St.rounds_ok hs b t) _ _
/-- A state with a block. -/
def St.compress (s : St) (b : Nat → Nat) : St := (s.rounds b 64).add s
theorem xor_ones (x : Nat) (hx : x < 4294967296) : 4294967295 ^^^ x = 4294967295 - x := by
  have h : (~~~(BitVec.ofNat 32 x)).toNat = 2 ^ 32 - 1 - (BitVec.ofNat 32 x).toNat := BitVec.toNat_not
  have e : (BitVec.ofNat 32 x).toNat = x := by rw [BitVec.toNat_ofNat]; exact Nat.mod_eq_of_lt hx
  rw [← BitVec.allOnes_xor, BitVec.toNat_xor, e] at h
  simpa using h
end Sha
