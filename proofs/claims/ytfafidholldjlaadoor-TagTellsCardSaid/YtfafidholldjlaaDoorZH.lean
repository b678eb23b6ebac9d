/- The law for a range over a function whose iterator and body share a block. -/
import Derived.Test.YtfafidholldjlaaDoorZA
import Derived.Test.YtfafidholldjlaaDoorZG
import Derived.Test.YtfafidholldjlaaDoorZB
import Derived.BigRegion
set_option linter.unusedVariables false
set_option linter.unusedSimpArgs false
namespace Go.Proofs.YtfafidholldjlaaDoor
open Go.RowKit
/-- What an iterator promises: N rounds, or fewer if a round says so (X: it takes such rounds in). -/
def Iter2 (X : Bool) (P : Program) (gf : Nat) (lb : Array Value) (m : Nat) (N : Nat) (enc : Nat → Array Value) (R S : World → World → Prop) (Fin : World → Prop) (w : World) : Prop :=
  ∀ (l : Nat) (J : Nat → World → Prop) (Jx : World → Prop) (W1 : World), Below w.heap.size w W1 → (∀ t W W', J t W → R W W' → J t W') → (∀ W W', Jx W → R W W' → Jx W') → (X = false → ∀ W, ¬ Jx W) →
    (∀ t, t < N → ∀ W, J t W → YieldAt Fence.wide m P l (enc t) W fun e W' => (e = .returned (.bool true) ∧ J (t + 1) W' ∧ S W W') ∨ (e = .returned (.bool false) ∧ Jx W')) →
    J 0 W1 → Calls P gf (#[.func (.yield l) #[] #[]] ++ lb) W1 fun e W' => (∃ v, e = .returned v) ∧ ((J N W' ∧ Fin W') ∨ Jx W')
/-- What a body must achieve. -/
def rangeBody2 (I : World → Prop) (Ix : Code → World → Prop) (b : Nat) (S : World → World → Prop) (W : World) : Exit → Act → World → Prop
  | .normal, _, W' => I W' ∧ Far (fun k => k ≠ b ∧ k ≠ b + 1) W W' ∧ S W W'
  | .ret, _, W' => Ix .ret W' ∧ Far (fun k => k ≠ b ∧ k ≠ b + 1) W W' ∧ S W W'
  | .exit id, _, W' => Ix (.exit id) W' ∧ Far (fun k => k ≠ b ∧ k ≠ b + 1) W W' ∧ S W W'
  | .goto t, _, W' => Ix (.goto t) W' ∧ Far (fun k => k ≠ b ∧ k ≠ b + 1) W W' ∧ S W W'
  | .panic _, _, _ => False
  | .outgrown, _, _ => False
theorem range_law2 {X : Bool} {P : Program} {n : Nat} {g : Operand} {ps : Array Tmp} {assign body : Code} {Q : Exit → Act → World → Prop} {a : Act} {w : World} {gf : Nat} {lb : Array Value} {N : Nat} {enc : Nat → Array Value} {R S : World → World → Prop} {Fin : World → Prop}
    (hg : a.eval g = .func (.func gf) #[] lb) (eg : ∀ args w, (callFunc gf args).run P w = .ok (.enter gf args) w)
    (hiter : Iter2 X P gf lb (n - 1 - 1) N enc R S Fin w) (hF : ∀ W W', Fin W → Far (· = w.heap.size + 1) W W' → Fin W') (hR : ∀ W W', R W W' → Far (fun k => k ≠ w.heap.size ∧ k ≠ w.heap.size + 1) W W')
    (hS : ∀ A B C D, Far (· = w.heap.size + 1) A B → S B C → Far (· = w.heap.size + 1) C D → S A D) (hps : ∀ t, (enc t).size = ps.size)
    (I : Nat → World → Prop) (Ix : Code → World → Prop)
    (hIr : ∀ t W W', I t W → R W W' → I t W') (hIxr : ∀ c W W', Ix c W → R W W' → Ix c W')
    (hI : ∀ t W W', I t W → Far (· = w.heap.size + 1) W W' → I t W') (hIx : ∀ c W W', Ix c W → Far (· = w.heap.size + 1) W W' → Ix c W')
    (hX : X = false → ∀ c W, ¬ Ix c W) (h0 : I 0 w) (a₁ : Nat → Act)
    (hassign : ∀ t W (K : Act → World → Prop), K (a₁ t) W → assign.wpIn (Fence.wide.inRound (w.heap.size + 1)) (n - 1 - 1) P (Exit.then K (fun _ _ _ => False)) { tmps := (ps.zip (enc t)).foldl (fun s (p, v) => s.setIfInBounds p v) a.tmps, defers := [] } W)
    (hbody : ∀ t W, t < N → w.heap.size + 1 < W.heap.size → I t W → body.wpIn (Fence.wide.inRound (w.heap.size + 1)) (n - 1 - 1) P (rangeBody2 (I (t + 1)) Ix w.heap.size S W) (a₁ t) W)
    (hdone : ∀ W, I N W → Fin W → W.heap[w.heap.size]? = some (.deferred (some [])) → Q .normal { a with defers := { target := .collected w.heap.size, args := #[] } :: a.defers } W)
    (hstop : ∀ c W, Ix c W → W.heap[w.heap.size]? = some (.deferred (some [])) → c.wpIn Fence.wide n P Q { a with defers := { target := .collected w.heap.size, args := #[] } :: a.defers } W) :
    (Code.rangeFunc g ps assign body).wpIn Fence.wide n P Q a w := by
  refine wpIn_rangeFunc ?_
  intro fn hfn
  obtain ⟨rec, hrec⟩ : ∃ rec : LoopState → Option Code → Loop, rec = fun st pe => { state := st, pending := pe, fn, tmps := a.tmps, params := ps, assign, body, defers := w.heap.size } := ⟨_, rfl⟩
  obtain ⟨W1, hW1⟩ : ∃ W1, (w.alloc (.deferred (some []))).alloc (.loop (rec .ready none)) = W1 := ⟨_, rfl⟩
  have hL1 : W1.heap[w.heap.size + 1]? = some (.loop (rec .ready none)) := by
    rw [← hW1]; exact alloc_heap_at _ _ _ (by simp)
  have hK1 : W1.heap[w.heap.size]? = some (.deferred (some [])) := by
    rw [← hW1]; exact alloc_heap_old _ (alloc_heap w _)
  have hI1 : I 0 W1 := by rw [← hW1]; exact hI 0 w _ h0 (((Far.refl _ _).alloc _).alloc _)
  have hb1 : Below w.heap.size w W1 := by rw [← hW1]; exact ((Below.refl _ w).alloc (Nat.le_refl _) _).alloc (by simp) _
  refine ⟨w.heap.size + 1, [{ target := .collected w.heap.size, args := #[] }], W1, { target := .fn (.func gf) lb, args := #[.func (.yield (w.heap.size + 1)) #[] #[]] }, W1, gf,
    #[.func (.yield (w.heap.size + 1)) #[] #[]] ++ lb, W1, ?_, ?_, ?_, ?_, fun h => absurd h (by simp [Fence.wide]), ?_⟩
  · rw [← hW1, hrec]; exact run_enterLoop_outer _ _ _ _ _
  · simp only [resolve, hg]
    simp [go_sem]
  · intro f' _; trivial
  · simp [invoke, go_sem, eg]
  · refine callsIn_wide.2 ((hiter (w.heap.size + 1)
      (fun t W => I t W ∧ W.heap[w.heap.size + 1]? = some (.loop (rec .ready none)) ∧ W.heap[w.heap.size]? = some (.deferred (some [])))
      (fun W => ∃ c, Ix c W ∧ W.heap[w.heap.size + 1]? = some (.loop (rec .done (some c))) ∧ W.heap[w.heap.size]? = some (.deferred (some [])))
      W1 hb1 ?_ ?_ (fun hx W ⟨c, hc, _⟩ => hX hx c W hc) ?_ ⟨hI1, hL1, hK1⟩).mono ?_)
    · rintro t W W' ⟨hi, hl, hk⟩ hf
      exact ⟨hIr t W W' hi hf, (hR _ _ hf).heap hl (fun e => e.2 rfl), (hR _ _ hf).heap hk (fun e => e.1 rfl)⟩
    · rintro W W' ⟨c, hi, hl, hk⟩ hf
      exact ⟨c, hIxr c W W' hi hf, (hR _ _ hf).heap hl (fun e => e.2 rfl), (hR _ _ hf).heap hk (fun e => e.1 rfl)⟩
    · rintro t ht W ⟨hi, hl, hk⟩
      have hlt : w.heap.size + 1 < W.heap.size := lt_of_heap hl
      have hy := run_yield (P := P) (args := enc t) hl (by rw [hrec]; exact hps t)
      rw [hrec] at hy
      refine ⟨fn, _, assign, body, hy, roundIn_of_wpIn trivial (hassign t W _ ⟨_, run_beginRound hl (by rw [hrec]), ?_⟩)⟩
      have hl2 : (W.putObj (w.heap.size + 1) (.loop { rec .ready none with state := .busy })).heap[w.heap.size + 1]? = some (.loop { rec .ready none with state := .busy }) := World.putObj_heap_same hlt
      have hk2 : (W.putObj (w.heap.size + 1) (.loop { rec .ready none with state := .busy })).heap[w.heap.size]? = some (.deferred (some [])) := (World.putObj_heap_other (by omega)).trans hk
      have hf2 : Far (· = w.heap.size + 1) W (W.putObj (w.heap.size + 1) (.loop { rec .ready none with state := .busy })) := far_putObj _ _ _
      have hi2 := hI t W _ hi hf2
      refine wpIn_mono (hbody t _ ht (by simpa using hlt) hi2) ?_
      have fin : ∀ (jump : Option Code) (W3 : World), (Far (fun k => k ≠ w.heap.size ∧ k ≠ w.heap.size + 1) (W.putObj (w.heap.size + 1) (.loop { rec .ready none with state := .busy })) W3 ∧ S (W.putObj (w.heap.size + 1) (.loop { rec .ready none with state := .busy })) W3) →
          (Instr.endRound (w.heap.size + 1) jump).run P W3 = .ok (.bool jump.isNone) (W3.putObj (w.heap.size + 1) (.loop (rec (if jump.isNone then .ready else .done) jump))) ∧
          (W3.putObj (w.heap.size + 1) (.loop (rec (if jump.isNone then .ready else .done) jump))).heap[w.heap.size + 1]? = some (.loop (rec (if jump.isNone then .ready else .done) jump)) ∧
          (W3.putObj (w.heap.size + 1) (.loop (rec (if jump.isNone then .ready else .done) jump))).heap[w.heap.size]? = some (.deferred (some [])) ∧
          S W (W3.putObj (w.heap.size + 1) (.loop (rec (if jump.isNone then .ready else .done) jump))) := fun jump W3 hk3 => by
        have hl3 := hk3.1.heap hl2 (fun e => e.2 rfl)
        have hd3 := hk3.1.heap hk2 (fun e => e.1 rfl)
        have := run_endRound (P := P) jump hl3
        rw [hrec] at this ⊢
        refine ⟨this, World.putObj_heap_same (lt_of_heap hl3), (World.putObj_heap_other (by omega)).trans hd3, ?_⟩
        rw [hrec] at hk3
        rw [hrec] at hf2
        exact hS _ _ _ _ hf2 hk3.2 (far_putObj _ _ _)
      have frl : ∀ (W3 : World) (o : Obj), Far (· = w.heap.size + 1) W3 (W3.putObj (w.heap.size + 1) o) := fun W3 o => far_putObj W3 _ o
      rintro e a3 W3 hp
      cases e with
      | normal =>
        obtain ⟨hi3, hk3⟩ := hp
        obtain ⟨hr, hl4, hk4, hf4⟩ := fin none W3 hk3
        exact ⟨_, _, hr, .inl ⟨rfl, ⟨hI _ _ _ hi3 (frl _ _), hl4, hk4⟩, hf4⟩⟩
      | ret =>
        obtain ⟨hi3, hk3⟩ := hp
        obtain ⟨hr, hl4, hk4, hf4⟩ := fin (some .ret) W3 hk3
        exact ⟨_, _, hr, .inr ⟨rfl, .ret, hIx _ _ _ hi3 (frl _ _), hl4, hk4⟩⟩
      | exit id =>
        obtain ⟨hi3, hk3⟩ := hp
        obtain ⟨hr, hl4, hk4, hf4⟩ := fin (some (.exit id)) W3 hk3
        exact ⟨_, _, hr, .inr ⟨rfl, .exit id, hIx _ _ _ hi3 (frl _ _), hl4, hk4⟩⟩
      | goto t =>
        obtain ⟨hi3, hk3⟩ := hp
        obtain ⟨hr, hl4, hk4, hf4⟩ := fin (some (.goto t)) W3 hk3
        exact ⟨_, _, hr, .inr ⟨rfl, .goto t, hIx _ _ _ hi3 (frl _ _), hl4, hk4⟩⟩
      | panic ch => exact hp.elim
      | outgrown => exact hp.elim
    · have frl : ∀ (W3 : World) (o : Obj), Far (· = w.heap.size + 1) W3 (W3.putObj (w.heap.size + 1) o) := fun W3 o => far_putObj W3 _ o
      rintro e W2 ⟨⟨v, rfl⟩, (⟨⟨hi, hl, hk⟩, hfin⟩ | ⟨c, hi, hl, hk⟩)⟩
      · exact ⟨none, _, by have := run_endLoop (P := P) hl (by rw [hrec]; simp); rw [hrec] at this; exact this, hdone _ (hI _ _ _ hi (frl _ _)) (hF _ _ hfin (frl _ _)) ((World.putObj_heap_other (by omega)).trans hk)⟩
      · exact ⟨some c, _, by have := run_endLoop (P := P) hl (by rw [hrec]; simp); rw [hrec] at this; exact this, hstop c _ (hIx c _ _ hi (frl _ _)) ((World.putObj_heap_other (by omega)).trans hk)⟩
end Go.Proofs.YtfafidholldjlaaDoor
/- The iterator over whole blocks. -/
set_option linter.unusedVariables false
set_option linter.unusedSimpArgs false
namespace Go.Proofs.YtfafidholldjlaaDoor
open Go.RowKit
attribute [local go_sem ↓] Go.wp_at_zero Go.wp_at_succ
/-- What the iterator may change, and what its body may. -/
def ItR (h : Nat) (W W' : World) : Prop := Far (· = h) W W' ∧ ∀ v s n, W.heap[h]? = some (.cells (hrow v s n) 93 (0, 0)) → ∃ v', W'.heap[h]? = some (.cells (hrow v' s n) 93 (0, 0))
def ItS (h B : Nat) (W W' : World) : Prop := Far (fun k => k = h ∨ B ≤ k) W W' ∧ ∀ v s n, W.heap[h]? = some (.cells (hrow v s n) 93 (0, 0)) → ∃ s', W'.heap[h]? = some (.cells (hrow v s' n) 93 (0, 0))
def RestB (B : Nat) (W : World) (h : Nat) (v : Value) (r : List UInt8) : Prop :=
  ∃ sp cap, v = .slice sp r.length cap ∧ (0 < r.length → ∃ g o, sp = some ⟨g, o, none⟩ ∧ g < B ∧ g < W.heap.size ∧ g ≠ h ∧ r.length ≤ cap ∧ ∀ j u, (byteCells r)[j]? = some u → W.cell? ⟨g, o + j, none⟩ = some u)
theorem RestB.far {D : Nat → Prop} {B : Nat} {W W' : World} {h : Nat} {v : Value} {r : List UInt8} (hr : RestB B W h v r) (hf : Far D W W') (hD : ∀ k, k < B → k ≠ h → ¬ D k) : RestB B W' h v r := by
  obtain ⟨sp, cap, e, hp⟩ := hr
  refine ⟨sp, cap, e, fun h0 => ?_⟩
  obtain ⟨g, o, e1, eB, e2, e3, e4, e5⟩ := hp h0
  exact ⟨g, o, e1, eB, Nat.lt_of_lt_of_le e2 hf.size, e3, e4, fun j u hj => (hf.cell (p := ⟨g, o + j, none⟩) e2 (hD g eB e3)).trans (e5 j u hj)⟩
theorem slice_head (g o L cap : Nat) (hL : 64 ≤ cap) (W : World) : (Instr.slice 40 (.slice (some ⟨g, o, none⟩) L cap) none (some (.int .i64 64)) none).run Tryd.prog W = .ok (.slice (some ⟨g, o, none⟩) 64 cap) W := by
  have h0 : cap ≠ 0 := by omega
  have h1 : (64 : Int) ≤ (cap : Int) := by omega
  simp [go_sem, Tryd.underlying40, h0, h1, hL]
theorem slice_rest (g o L cap : Nat) (hL : 64 ≤ L) (hc : L ≤ cap) (W : World) : (Instr.slice 40 (.slice (some ⟨g, o, none⟩) L cap) (some (.int .i64 64)) (some (.int .i64 (L : Int))) (some (.int .i64 (L : Int)))).run Tryd.prog W = .ok (.slice (if L = 64 then some ⟨g, o, none⟩ else some ⟨g, o + 64, none⟩) (L - 64) (L - 64)) W := by
  have h1 : (64 : Int) ≤ (L : Int) := by omega
  have h2 : (L : Int) ≤ (cap : Int) := by omega
  simp [go_sem, Tryd.underlying40, h1, h2, hL, hc]
theorem conv_front (W : World) (g o cap : Nat) (r : List UInt8) (hr : 64 ≤ r.length) (hc : ∀ j u, (byteCells r)[j]? = some u → W.cell? ⟨g, o + j, none⟩ = some u) :
    (convert 40 9 (.slice (some ⟨g, o, none⟩) 64 cap)).run Tryd.prog W = .ok (.string ⟨(r.take 64).toArray⟩) W := by
  have hl : (r.take 64).length = 64 := by simp; omega
  have h := run_convert_bytes_back (P := Tryd.prog) W 40 9 5 ⟨g, o, none⟩ cap (r.take 64) Tryd.underlying40 Tryd.underlying5 Tryd.underlying9 (fun j hj => by
    rw [Addr.add_lit]
    refine hc j _ ?_
    have h1 : j < r.length := by rw [hl] at hj; omega
    simp [byteCells, List.getElem?_eq_getElem h1])
  rw [hl] at h
  exact h
/-- A hasher whose rest is this. -/
def RestAt (h B : Nat) (n : Int) (r : List UInt8) (W : World) : Prop := ∃ v s, W.heap[h]? = some (.cells (hrow v s n) 93 (0, 0)) ∧ RestB B W h v r
/-- How many bytes a hasher has that are no whole block yet. -/
def restLen (h : Nat) (W : World) : Nat := match W.cell? ⟨h, 0, none⟩ with
  | some (.slice _ n _) => n
  | _ => 0
set_option maxRecDepth 100000 in
set_option maxHeartbeats 2000000 in
theorem blocks_calls (l h bb B : Nat) (r : List UInt8) (hrl : r.length ≤ 800000) (J : Nat → World → Prop) (hJ : ∀ t W W', J t W → ItR h W W' → J t W')
    (hY : ∀ t, t < r.length / 64 → ∀ W, J t W → YieldAt Fence.wide 3 Tryd.prog l #[.string ⟨((r.drop (64 * t)).take 64).toArray⟩] W fun e W' => e = .returned (.bool true) ∧ J (t + 1) W' ∧ ItS h B W W')
    (W : World) (hbb : W.heap[bb]? = some (.cells #[.pointer (some ⟨h, 0, none⟩)] 145 (0, 0))) (v : Value) (s : Sha.St) (n : Int) (hh : W.heap[h]? = some (.cells (hrow v s n) 93 (0, 0))) (hne : bb ≠ h) (hbB : bb < B) (hv : RestB B W h v r) (h0 : J 0 W) :
    Calls Tryd.prog 99 #[.func (.yield l) #[] #[], .pointer (some ⟨bb, 0, none⟩)] W fun e W' => e = .returned (.tuple #[]) ∧ J (r.length / 64) W' ∧ RestAt h B n (r.drop (64 * (r.length / 64))) W' := by
  have HJ := Lib.hid hJ
  have HY := Lib.hid hY
  have Hbb := Lib.hid hbb
  have Hh := Lib.hid hh
  have Hv := Lib.hid hv
  clear hJ hY hbb hh hv
  go_enter Tryd.func99, Tryd.ntmps99
  go_wp2_with fail
  go_step3
  go_wp2_with fail
  go_step3
  go_wp2_with fail
  go_loopw [] (fun wr => ∃ t : Nat, t ≤ r.length / 64 ∧ wr.heap[bb]? = some (.cells #[.pointer (some ⟨h, 0, none⟩)] 145 (0, 0)) ∧ (∃ v s, wr.heap[h]? = some (.cells (hrow v s n) 93 (0, 0)) ∧ RestB B wr h v (r.drop (64 * t))) ∧ J t wr) (fun wr => restLen h wr)
  case atStart => exact ⟨0, Nat.zero_le _, Hbb.out, ⟨v, s, Hh.out, by simpa using Hv.out⟩, h0⟩
  case round =>
    obtain ⟨t, ht, rbb, ⟨v, s, rh, rv⟩, rJ⟩ := hrel
    obtain ⟨sp, cap, rfl, hp⟩ := rv
    obtain ⟨rr, hrr⟩ : ∃ x, r.drop (64 * t) = x := ⟨_, rfl⟩
    have hrrl : rr.length = r.length - 64 * t := by rw [← hrr, List.length_drop]
    rw [hrr] at hp rh
    have hnx : r.drop (64 * (t + 1)) = rr.drop 64 := by rw [← hrr, List.drop_drop]; congr 1
    have HRR := Lib.hid hrr
    clear hrr
    by_cases hlt : 64 ≤ rr.length
    · have htl : t < r.length / 64 := by omega
      obtain ⟨g, o, rfl, eB, e2, e3, e4, e5⟩ := hp (by omega)
      have c0 : wr.cell? ⟨bb, 0, none⟩ = some (.pointer (some ⟨h, 0, none⟩)) := cell_of rbb 0
      have c1 : wr.cell? ⟨h, 0, none⟩ = some (.slice (some ⟨g, o, none⟩) rr.length cap) := cell_of rh 0
      have fz : wr.frozen? ⟨h, 0, none⟩ = false := frozen_of rh 0
      have s1 := slice_head g o rr.length cap (by omega)
      have cv := conv_front wr g o cap rr hlt e5
      have s2 := slice_rest g o rr.length cap hlt e4
      obtain ⟨sp2, hsp2⟩ : ∃ x, (if rr.length = 64 then some (⟨g, o, none⟩ : Addr) else some ⟨g, o + 64, none⟩) = x := ⟨_, rfl⟩
      rw [hsp2] at s2
      have HSP := Lib.hid hsp2
      have hi : (64 : Int) ≤ (rr.length : Int) := by omega
      have hX0 : ((wr.setCell ⟨h, 0, none⟩ (.slice sp2 (rr.length - 64) (rr.length - 64))).drew).heap[h]? = some (.cells (hrow (.slice sp2 (rr.length - 64) (rr.length - 64)) s n) 93 (0, 0)) := setCell_heap rh 0 _
      have hXbb : ((wr.setCell ⟨h, 0, none⟩ (.slice sp2 (rr.length - 64) (rr.length - 64))).drew).heap[bb]? = some (.cells #[.pointer (some ⟨h, 0, none⟩)] 145 (0, 0)) := (Below.heap_setCell _ _ _ _ hne).trans rbb
      have hXF : Far (· = h) wr ((wr.setCell ⟨h, 0, none⟩ (.slice sp2 (rr.length - 64) (rr.length - 64))).drew) := (Far.setCell (D := (· = h)) (p := ⟨h, 0, none⟩) (Far.refl _ _) (fun _ => rfl) _).drew
      have hXJ : J t ((wr.setCell ⟨h, 0, none⟩ (.slice sp2 (rr.length - 64) (rr.length - 64))).drew) := HJ.out t wr _ rJ ⟨hXF, fun v s' n' e => by
        rw [rh] at e
        simp only [hrow, Option.some.injEq, Obj.cells.injEq, Array.mk.injEq, List.cons.injEq, Value.int.injEq, Int.natCast_inj, true_and, and_true] at e
        refine ⟨.slice sp2 (rr.length - 64) (rr.length - 64), hX0.trans ?_⟩
        obtain ⟨_, a1, a2, a3, a4, a5, a6, a7, a8, a9⟩ := e
        simp only [hrow, a1, a2, a3, a4, a5, a6, a7, a8, a9]⟩
      have hXr : RestB B ((wr.setCell ⟨h, 0, none⟩ (.slice sp2 (rr.length - 64) (rr.length - 64))).drew) h (.slice sp2 (rr.length - 64) (rr.length - 64)) (rr.drop 64) := by
        refine ⟨sp2, rr.length - 64, by rw [List.length_drop], fun h0 => ?_⟩
        rw [List.length_drop] at h0
        refine ⟨g, o + 64, by rw [← HSP.out, if_neg (by omega)], eB, Nat.lt_of_lt_of_le e2 hXF.size, e3, by rw [List.length_drop]; omega, fun j u hj => ?_⟩
        refine (hXF.cell (p := ⟨g, o + 64 + j, none⟩) e2 e3).trans ?_
        rw [Nat.add_assoc]
        refine e5 (64 + j) u ?_
        simpa [byteCells] using hj
      have RRH := Lib.hid rh
      have RJ := Lib.hid rJ
      have E5 := Lib.hid e5
      have HX0 := Lib.hid hX0
      have HXBB := Lib.hid hXbb
      have HXJ := Lib.hid hXJ
      have HXR := Lib.hid hXr
      have HNX := Lib.hid hnx
      have HRL := Lib.hid hrrl
      clear rh rJ e5 hX0 hXbb hXJ hXr hp hnx hrrl hXF rbb hsp2
      go_wp2_with fail
      go_region
      clear s1 cv s2 c0 c1 fz
      go_upto_region 3 with (fail)
      obtain ⟨X, hXe⟩ : ∃ X, ((wr.setCell ⟨h, 0, none⟩ (.slice sp2 (rr.length - 64) (rr.length - 64))).drew) = X := ⟨_, rfl⟩
      rw [hXe] at HX0 HXBB HXJ HXR ⊢
      clear hXe
      obtain ⟨fn, tmps, assign, body, hy, hR⟩ := HY.out t htl X HXJ.out
      rw [HRR.out] at hy
      have RR := Lib.hid hR
      clear hR
      refine (wpIn_wide (n := 4)).1 ?_
      gi_wp2
      refine (RR.out).mono ?_
      rintro e W3 ⟨rfl, hJ3, hS3⟩
      gi_wp2
      go_wp2_with fail
      go_roundw
      case rel =>
        obtain ⟨hF3, hrow3⟩ := hS3
        obtain ⟨s', hs'⟩ := hrow3 _ _ _ HX0.out
        refine ⟨t + 1, by omega, (hF3.heap HXBB.out (by intro hc; rcases hc with hc | hc <;> omega)), ⟨_, s', hs', ?_⟩, hJ3⟩
        rw [HNX.out]
        exact HXR.out.far hF3 (fun k h1 h2 hc => by rcases hc with hc | hc <;> omega)
      case measure =>
        obtain ⟨hF3, hrow3⟩ := hS3
        obtain ⟨s', hs'⟩ := hrow3 _ _ _ HX0.out
        have m1 : restLen h wr = rr.length := by unfold restLen; rw [cell_of RRH.out 0]; rfl
        have m2 : restLen h W3 = rr.length - 64 := by unfold restLen; rw [cell_of hs' 0]; rfl
        rw [m1, m2]
        omega
    · obtain rfl : t = r.length / 64 := by omega
      have c0 : wr.cell? ⟨bb, 0, none⟩ = some (.pointer (some ⟨h, 0, none⟩)) := cell_of rbb 0
      have c1 : wr.cell? ⟨h, 0, none⟩ = some (.slice sp rr.length cap) := cell_of rh 0
      have hi : (rr.length : Int) < 64 := by omega
      have hfin : RestAt h B n rr wr := ⟨_, s, rh, sp, cap, rfl, hp⟩
      have HFIN := Lib.hid hfin
      clear hp hnx rh rbb hfin
      go_wp2_with fail
      rw [Exit.noGoto_normal]
      go_end0
      exact ⟨rfl, rJ, by rw [HRR.out]; exact HFIN.out⟩
end Go.Proofs.YtfafidholldjlaaDoor
