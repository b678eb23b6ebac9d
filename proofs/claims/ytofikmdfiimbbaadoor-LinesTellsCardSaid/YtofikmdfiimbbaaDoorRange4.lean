/- The law for a range over a function whose variables are laid anew each round. -/
import Derived.Test.YtofikmdfiimbbaaDoorRange3
set_option linter.unusedVariables false
set_option linter.unusedSimpArgs false
namespace Go.Proofs.YtofikmdfiimbbaaDoor
open Go.RowKit
theorem range_law4 {X : Bool} {P : Program} {n : Nat} {g : Operand} {ps : Array Tmp} {assign body : Code} {Q : Exit → Act → World → Prop} {a : Act} {w : World} {gf : Nat} {lb : Array Value} {N : Nat} {enc : Nat → Array Value} {R S : World → World → Prop} {Fin : World → Prop}
    (hg : a.eval g = .func (.func gf) #[] lb) (eg : ∀ args w, (callFunc gf args).run P w = .ok (.enter gf args) w)
    (hiter : Iter3 X P gf lb (n - 1 - 1) N enc R S Fin w) (hF : ∀ W W', Fin W → Far (· = w.heap.size + 1) W W' → Fin W') (hR : ∀ W W', R W W' → Far (fun k => k ≠ w.heap.size ∧ k ≠ w.heap.size + 1) W W')
    (hS : ∀ A B C D, Far (· = w.heap.size + 1) A B → S B C → Far (· = w.heap.size + 1) C D → S A D) (hps : ∀ t, (enc t).size = ps.size)
    (I : Nat → World → Prop) (Ix : Code → World → Prop)
    (hIr : ∀ t W W', I t W → R W W' → I t W') (hIxr : ∀ c W W', Ix c W → R W W' → Ix c W')
    (hI : ∀ t W W', I t W → Far (· = w.heap.size + 1) W W' → I t W') (hIx : ∀ c W W', Ix c W → Far (· = w.heap.size + 1) W W' → Ix c W')
    (hX : X = false → ∀ c W, ¬ Ix c W) (h0 : I 0 w) (A : Nat → Act → World → Prop) (hA : ∀ t a W W', A t a W → Far (· = w.heap.size + 1) W W' → A t a W') (hS2 : ∀ A B C, S A B → S B C → S A C)
    (hassign : ∀ t W (K : Act → World → Prop), t < N → w.heap.size + 1 < W.heap.size → I t W → (∀ a₁ W', A t a₁ W' → Far (fun k => k ≠ w.heap.size ∧ k ≠ w.heap.size + 1) W W' → S W W' → K a₁ W') → assign.wpIn (Fence.wide.inRound (w.heap.size + 1)) (n - 1 - 1) P (Exit.then K (fun _ _ _ => False)) { tmps := (ps.zip (enc t)).foldl (fun s (p, v) => s.setIfInBounds p v) a.tmps, defers := [] } W)
    (hbody : ∀ t a₁ W, t < N → w.heap.size + 1 < W.heap.size → A t a₁ W → body.wpIn (Fence.wide.inRound (w.heap.size + 1)) (n - 1 - 1) P (rangeBody3 (I (t + 1)) Ix w.heap.size S W) a₁ W)
    (hdone : ∀ W, I N W → Fin W → W.heap[w.heap.size]? = some (.deferred (some [])) → Q .normal { a with defers := { target := .collected w.heap.size, args := #[] } :: a.defers } W)
    (hstop : ∀ c W, Ix c W → W.heap[w.heap.size]? = some (.deferred (some [])) → c.wpIn Fence.wide n P Q { a with defers := { target := .collected w.heap.size, args := #[] } :: a.defers } W) :
    (Code.rangeFunc g ps assign body).wpIn Fence.wide n P Q a w := by
  refine wpIn_rangeFunc ?_
  intro fn hfn
  obtain ⟨rec, hrec⟩ : ∃ rec : LoopState → Option Code → Loop, rec = fun st pe => { state := st, pending := pe, fn, tmps := a.tmps, params := ps, assign, body, defers := w.heap.size } := ⟨_, rfl⟩
  obtain ⟨W1, hW1⟩ : ∃ W1, (w.alloc (.deferred (some []))).alloc (.loop (rec .ready none)) = W1 := ⟨_, rfl⟩
  have hL1 : W1.heap[w.heap.size + 1]? = some (.loop (rec .ready none)) := by
    rw [← hW1]; exact alloc_heap_at _ _ _ (by simp)
  have hK1 : W1.heap[w.heap.size]? = some (.deferred (some [])) := by
    rw [← hW1]; exact alloc_heap_old _ (alloc_heap w _)
  have hI1 : I 0 W1 := by rw [← hW1]; exact hI 0 w _ h0 (((Far.refl _ _).alloc _).alloc _)
  have hb1 : Below w.heap.size w W1 := by rw [← hW1]; exact ((Below.refl _ w).alloc (Nat.le_refl _) _).alloc (by simp) _
  refine ⟨w.heap.size + 1, [{ target := .collected w.heap.size, args := #[] }], W1, { target := .fn (.func gf) lb, args := #[.func (.yield (w.heap.size + 1)) #[] #[]] }, W1, gf,
    #[.func (.yield (w.heap.size + 1)) #[] #[]] ++ lb, W1, ?_, ?_, ?_, ?_, fun h => absurd h (by simp [Fence.wide]), ?_⟩
  · rw [← hW1, hrec]; exact run_enterLoop_outer _ _ _ _ _
  · simp only [resolve, hg]
    simp [go_sem]
  · intro f' _; trivial
  · simp [invoke, go_sem, eg]
  · refine callsIn_wide.2 ((hiter (w.heap.size + 1)
      (fun t W => I t W ∧ W.heap[w.heap.size + 1]? = some (.loop (rec .ready none)) ∧ W.heap[w.heap.size]? = some (.deferred (some [])))
      (fun W => ∃ c, Ix c W ∧ W.heap[w.heap.size + 1]? = some (.loop (rec .done (some c))) ∧ W.heap[w.heap.size]? = some (.deferred (some [])))
      W1 hb1 (by rw [← hW1]; simp) ?_ ?_ (fun hx W ⟨c, hc, _⟩ => hX hx c W hc) ?_ ⟨hI1, hL1, hK1⟩).mono ?_)
    · rintro t W W' ⟨hi, hl, hk⟩ hf
      exact ⟨hIr t W W' hi hf, (hR _ _ hf).heap hl (fun e => e.2 rfl), (hR _ _ hf).heap hk (fun e => e.1 rfl)⟩
    · rintro W W' ⟨c, hi, hl, hk⟩ hf
      exact ⟨c, hIxr c W W' hi hf, (hR _ _ hf).heap hl (fun e => e.2 rfl), (hR _ _ hf).heap hk (fun e => e.1 rfl)⟩
    · rintro t ht W0 ⟨hi, hl0, hk0⟩
      have hlt0 : w.heap.size + 1 < W0.heap.size := lt_of_heap hl0
      have hy := run_yield (P := P) (args := enc t) hl0 (by rw [hrec]; exact hps t)
      rw [hrec] at hy
      refine ⟨fn, _, assign, body, hy, roundIn_of_wpIn trivial (hassign t W0 _ ht hlt0 hi (fun a₁ W hA1 hF1 hS1 => ?_))⟩
      have hl := hF1.heap hl0 (fun e => e.2 rfl)
      have hk := hF1.heap hk0 (fun e => e.1 rfl)
      have hlt : w.heap.size + 1 < W.heap.size := lt_of_heap hl
      refine ⟨_, run_beginRound hl (by rw [hrec]), ?_⟩
      have hl2 : (W.putObj (w.heap.size + 1) (.loop { rec .ready none with state := .busy })).heap[w.heap.size + 1]? = some (.loop { rec .ready none with state := .busy }) := World.putObj_heap_same hlt
      have hk2 : (W.putObj (w.heap.size + 1) (.loop { rec .ready none with state := .busy })).heap[w.heap.size]? = some (.deferred (some [])) := (World.putObj_heap_other (by omega)).trans hk
      have hf2 : Far (· = w.heap.size + 1) W (W.putObj (w.heap.size + 1) (.loop { rec .ready none with state := .busy })) := far_putObj _ _ _
      have hi2 := hA t a₁ W _ hA1 hf2
      refine wpIn_mono (hbody t a₁ _ ht (by simpa using hlt) hi2) ?_
      have fin : ∀ (jump : Option Code) (W3 : World), (Far (fun k => k ≠ w.heap.size ∧ k ≠ w.heap.size + 1) (W.putObj (w.heap.size + 1) (.loop { rec .ready none with state := .busy })) W3 ∧ S (W.putObj (w.heap.size + 1) (.loop { rec .ready none with state := .busy })) W3) →
          (Instr.endRound (w.heap.size + 1) jump).run P W3 = .ok (.bool jump.isNone) (W3.putObj (w.heap.size + 1) (.loop (rec (if jump.isNone then .ready else .done) jump))) ∧
          (W3.putObj (w.heap.size + 1) (.loop (rec (if jump.isNone then .ready else .done) jump))).heap[w.heap.size + 1]? = some (.loop (rec (if jump.isNone then .ready else .done) jump)) ∧
          (W3.putObj (w.heap.size + 1) (.loop (rec (if jump.isNone then .ready else .done) jump))).heap[w.heap.size]? = some (.deferred (some [])) ∧
          S W0 (W3.putObj (w.heap.size + 1) (.loop (rec (if jump.isNone then .ready else .done) jump))) := fun jump W3 hk3 => by
        have hl3 := hk3.1.heap hl2 (fun e => e.2 rfl)
        have hd3 := hk3.1.heap hk2 (fun e => e.1 rfl)
        have := run_endRound (P := P) jump hl3
        rw [hrec] at this ⊢
        refine ⟨this, World.putObj_heap_same (lt_of_heap hl3), (World.putObj_heap_other (by omega)).trans hd3, ?_⟩
        rw [hrec] at hk3
        rw [hrec] at hf2
        exact hS2 _ _ _ hS1 (hS _ _ _ _ hf2 hk3.2 (far_putObj _ _ _))
      have frl : ∀ (W3 : World) (o : Obj), Far (· = w.heap.size + 1) W3 (W3.putObj (w.heap.size + 1) o) := fun W3 o => far_putObj W3 _ o
      rintro e a3 W3 hp
      cases e with
      | normal =>
        obtain ⟨hi3, hk3⟩ := hp
        obtain ⟨hr, hl4, hk4, hf4⟩ := fin none W3 hk3
        exact ⟨_, _, hr, .inl ⟨rfl, ⟨hI _ _ _ hi3 (frl _ _), hl4, hk4⟩, hf4⟩⟩
      | ret =>
        obtain ⟨hi3, hk3⟩ := hp
        obtain ⟨hr, hl4, hk4, hf4⟩ := fin (some .ret) W3 hk3
        exact ⟨_, _, hr, .inr ⟨rfl, .ret, hIx _ _ _ hi3 (frl _ _), hl4, hk4⟩⟩
      | exit id =>
        obtain ⟨hi3, hk3⟩ := hp
        obtain ⟨hr, hl4, hk4, hf4⟩ := fin (some (.exit id)) W3 hk3
        exact ⟨_, _, hr, .inr ⟨rfl, .exit id, hIx _ _ _ hi3 (frl _ _), hl4, hk4⟩⟩
      | goto t =>
        obtain ⟨hi3, hk3⟩ := hp
        obtain ⟨hr, hl4, hk4, hf4⟩ := fin (some (.goto t)) W3 hk3
        exact ⟨_, _, hr, .inr ⟨rfl, .goto t, hIx _ _ _ hi3 (frl _ _), hl4, hk4⟩⟩
      | panic ch => exact hp.elim
      | outgrown => exact hp.elim
    · have frl : ∀ (W3 : World) (o : Obj), Far (· = w.heap.size + 1) W3 (W3.putObj (w.heap.size + 1) o) := fun W3 o => far_putObj W3 _ o
      rintro e W2 ⟨⟨v, rfl⟩, (⟨⟨hi, hl, hk⟩, hfin⟩ | ⟨c, hi, hl, hk⟩)⟩
      · exact ⟨none, _, by have := run_endLoop (P := P) hl (by rw [hrec]; simp); rw [hrec] at this; exact this, hdone _ (hI _ _ _ hi (frl _ _)) (hF _ _ hfin (frl _ _)) ((World.putObj_heap_other (by omega)).trans hk)⟩
      · exact ⟨some c, _, by have := run_endLoop (P := P) hl (by rw [hrec]; simp); rw [hrec] at this; exact this, hstop c _ (hIx c _ _ hi (frl _ _)) ((World.putObj_heap_other (by omega)).trans hk)⟩
end Go.Proofs.YtofikmdfiimbbaaDoor
