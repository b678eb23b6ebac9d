/- The contracts of round, told and add, on states. -/
import Derived.Test.YtfafidholldjlaaDoorA6
set_option linter.unusedVariables false
set_option linter.unusedSimpArgs false
namespace Go.Proofs.YtfafidholldjlaaDoor
open Go.RowKit
/-- A state's words, as cells. -/
def row32 (s : Sha.St) : Array Value := #[.int .u32 s.a, .int .u32 s.b, .int .u32 s.c, .int .u32 s.d, .int .u32 s.e, .int .u32 s.f, .int .u32 s.g, .int .u32 s.h]
def row64 (s : Sha.St) : Array Value := #[.int .i64 s.a, .int .i64 s.b, .int .i64 s.c, .int .i64 s.d, .int .i64 s.e, .int .i64 s.f, .int .i64 s.g, .int .i64 s.h]
theorem ch_val (e f g : Nat) (he : e < 4294967296) (hf : f < 4294967296) (hg : g < 4294967296) :
    bits BinOp.xor IntKind.u32 (bits BinOp.and IntKind.u32 e f) (bits BinOp.and IntKind.u32 (bits BinOp.xor IntKind.u32 IntKind.u32.max e) g) = ((Sha.ch e f g : Nat) : Int) := by
  have hm : IntKind.u32.max = ((4294967295 : Nat) : Int) := rfl
  have h1 : e &&& f < 2 ^ 32 := Nat.and_lt_two_pow _ hf
  have h2 : (4294967295 - e) &&& g < 2 ^ 32 := Nat.and_lt_two_pow _ hg
  rw [hm, u32_xor_nat _ _ (by decide) he, Sha.xor_ones e he, u32_and_nat _ _ he hf, u32_and_nat _ _ (by omega) hg, u32_xor_nat _ _ h1 h2]
  rfl
theorem maj_val (a b c : Nat) (ha : a < 4294967296) (hb : b < 4294967296) (hc : c < 4294967296) :
    bits BinOp.xor IntKind.u32 (bits BinOp.xor IntKind.u32 (bits BinOp.and IntKind.u32 a b) (bits BinOp.and IntKind.u32 a c)) (bits BinOp.and IntKind.u32 b c) = ((Sha.maj a b c : Nat) : Int) := by
  have h1 : a &&& b < 2 ^ 32 := Nat.and_lt_two_pow _ hb
  have h2 : a &&& c < 2 ^ 32 := Nat.and_lt_two_pow _ hc
  have h3 : b &&& c < 2 ^ 32 := Nat.and_lt_two_pow _ hc
  rw [u32_and_nat _ _ ha hb, u32_and_nat _ _ ha hc, u32_and_nat _ _ hb hc, u32_xor_nat _ _ h1 h2, u32_xor_nat _ _ (Nat.xor_lt_two_pow h1 h2) h3]
  rfl
theorem t1W_val (s : Sha.St) (hs : s.ok) (k x : Nat) : t1W s.e s.f s.g s.h k x = ((Sha.t1 s k x : Nat) : Int) := by
  obtain ⟨h0, h1, h2, h3, h4, h5, h6, h7⟩ := hs
  unfold t1W
  rw [ch_val _ _ _ h4 h5 h6]
  simp only [IntKind.wrap_u32']
  unfold Sha.t1
  omega
theorem t2W_val (s : Sha.St) (hs : s.ok) : t2W s.a s.b s.c = ((Sha.t2 s : Nat) : Int) := by
  obtain ⟨h0, h1, h2, h3, h4, h5, h6, h7⟩ := hs
  unfold t2W
  rw [maj_val _ _ _ h0 h1 h2]
  simp only [IntKind.wrap_u32']
  unfold Sha.t2
  omega
theorem round_any (b : Nat) (T : TypeId) (s : Sha.St) (hs : s.ok) (i x : Nat) {B : Nat} {aw ab : Addr} {w : World} (h : Glob B aw ab w)
    (hB : w.heap[b]? = some (.cells (row32 s) T (0, 0))) (hi : i < 64) :
    Calls Tryd.prog 66 #[.pointer (some ⟨b, 0, none⟩), .int .i64 (i : Int), .int .u32 (x : Int)] w fun e w' => e = .returned (.tuple #[]) ∧
      w'.heap[b]? = some (.cells (row32 (s.round (Sha.K.getD i 0) x)) T (0, 0)) ∧ Far (· = b) w w' := by
  have hk := h.const i hi
  have h6 := h.pos
  have ek : (Sha.K[i]'hi : Nat) = Sha.K.getD i 0 := by rw [List.getD_eq_getElem?_getD, List.getElem?_eq_getElem (show i < Sha.K.length from hi)]; rfl
  rw [ek] at hk
  refine (round_walk b T s.a s.b s.c s.d s.e s.f s.g s.h i x (Sha.K.getD i 0) w (by omega) hB hi hk hs.2.2.2.2.1 hs.1).mono ?_
  rintro e w' ⟨he, hb, hf⟩
  refine ⟨he, ?_, hf⟩
  rw [hb, t1W_val s hs, t2W_val s hs]
  have e1 : (((Sha.t1 s (Sha.K.getD i 0) x : Nat) : Int) + ((Sha.t2 s : Nat) : Int)) % 4294967296 = (((Sha.t1 s (Sha.K.getD i 0) x + Sha.t2 s) % 4294967296 : Nat) : Int) := by omega
  have e2 : ((s.d : Int) + ((Sha.t1 s (Sha.K.getD i 0) x : Nat) : Int)) % 4294967296 = (((s.d + Sha.t1 s (Sha.K.getD i 0) x) % 4294967296 : Nat) : Int) := by omega
  rw [e1, e2]
  rfl
theorem told_any (b : Nat) (T : TypeId) (s : Sha.St) (hs : s.ok) (w : World) (hB : w.heap[b]? = some (.cells (row32 s) T (0, 0))) :
    Calls Tryd.prog 67 #[.pointer (some ⟨b, 0, none⟩)] w fun e w' => e = .returned (.agg (row64 s)) ∧ Far NoneD w w' :=
  told_state b T s.a s.b s.c s.d s.e s.f s.g s.h w hB hs.1 hs.2.1 hs.2.2.1 hs.2.2.2.1 hs.2.2.2.2.1 hs.2.2.2.2.2.1 hs.2.2.2.2.2.2.1 hs.2.2.2.2.2.2.2
theorem add_any (b : Nat) (T : TypeId) (s t : Sha.St) (w : World) (hB : w.heap[b]? = some (.cells (row32 s) T (0, 0))) :
    Calls Tryd.prog 69 #[.pointer (some ⟨b, 0, none⟩), .agg (row32 t)] w fun e w' => e = .returned (.tuple #[]) ∧ w'.heap[b]? = some (.cells (row32 (s.add t)) T (0, 0)) ∧ Far (· = b) w w' := by
  refine (add_state b T s.a s.b s.c s.d s.e s.f s.g s.h t.a t.b t.c t.d t.e t.f t.g t.h w hB).mono ?_
  rintro e w' ⟨he, hb, hf⟩
  refine ⟨he, ?_, hf⟩
  rw [hb]
  simp only [row32, Sha.St.add, Int.natCast_emod, Int.natCast_add]
  rfl
end Go.Proofs.YtfafidholldjlaaDoor
