/- A range over a function whose iterator keeps cells of its own: the law, over the widest fence. The iterator owns the blocks bs (read) and bw (written); the body may leave by a jump. -/
import Derived.Test.YtofikmdfiimbbaaDoorFar
import Derived.RangeFuncNested
import Derived.RangeFuncCalls
import Derived.RangeFuncLeaves
import Derived.OwnWalkIn
import Derived.TacticsInMore
set_option linter.unusedVariables false
set_option linter.unusedSimpArgs false
namespace Go.Proofs.YtofikmdfiimbbaaDoor
open Go.RowKit
theorem far_putObj (W : World) (l : Nat) (o : Obj) : Far (· = l) W (W.putObj l o) := ⟨rfl, rfl, rfl, by simp, fun _ _ hn => World.putObj_heap_other hn⟩
/-- What an iterator promises: N rounds, or fewer if a round says so (X: it takes such rounds in). -/
def Iter (X : Bool) (P : Program) (gf : Nat) (lb : Array Value) (m : Nat) (N : Nat) (enc : Nat → Array Value) (own keep : Nat → Prop) (w : World) : Prop :=
  ∀ (l : Nat) (J : Nat → World → Prop) (Jx : World → Prop) (W1 : World), Below w.heap.size w W1 → (∀ t W W', J t W → Far own W W' → J t W') → (∀ W W', Jx W → Far own W W' → Jx W') → (X = false → ∀ W, ¬ Jx W) →
    (∀ t, t < N → ∀ W, J t W → YieldAt Fence.wide m P l (enc t) W fun e W' => (e = .returned (.bool true) ∧ J (t + 1) W' ∧ Far (fun k => ¬ keep k) W W') ∨ (e = .returned (.bool false) ∧ Jx W')) →
    J 0 W1 → Calls P gf (#[.func (.yield l) #[] #[]] ++ lb) W1 fun e W' => (∃ v, e = .returned v) ∧ (J N W' ∨ Jx W')
/-- What a body must achieve. -/
def rangeBody (I : World → Prop) (Ix : Code → World → Prop) (keep : Nat → Prop) (W : World) : Exit → Act → World → Prop
  | .normal, _, W' => I W' ∧ Far (fun k => ¬ keep k) W W'
  | .ret, _, W' => Ix .ret W' ∧ Far (fun k => ¬ keep k) W W'
  | .exit id, _, W' => Ix (.exit id) W' ∧ Far (fun k => ¬ keep k) W W'
  | .goto t, _, W' => Ix (.goto t) W' ∧ Far (fun k => ¬ keep k) W W'
  | .panic _, _, _ => False
  | .outgrown, _, _ => False
theorem range_law {X : Bool} {P : Program} {n : Nat} {g : Operand} {ps : Array Tmp} {assign body : Code} {Q : Exit → Act → World → Prop} {a : Act} {w : World} {gf : Nat} {lb : Array Value} {N : Nat} {enc : Nat → Array Value} {own keep : Nat → Prop}
    (hg : a.eval g = .func (.func gf) #[] lb) (eg : ∀ args w, (callFunc gf args).run P w = .ok (.enter gf args) w)
    (hiter : Iter X P gf lb (n - 1 - 1) N enc own keep w) (hown : ∀ k, own k → k < w.heap.size) (hkeep : ∀ k, keep k → k < w.heap.size) (hps : ∀ t, (enc t).size = ps.size)
    (I : Nat → World → Prop) (Ix : Code → World → Prop)
    (hI : ∀ t W W', I t W → Far (fun k => own k ∨ k = w.heap.size + 1) W W' → I t W') (hIx : ∀ c W W', Ix c W → Far (fun k => own k ∨ k = w.heap.size + 1) W W' → Ix c W')
    (hX : X = false → ∀ c W, ¬ Ix c W) (h0 : I 0 w) (a₁ : Nat → Act)
    (hassign : ∀ t W (K : Act → World → Prop), K (a₁ t) W → assign.wpIn (Fence.wide.inRound (w.heap.size + 1)) (n - 1 - 1) P (Exit.then K (fun _ _ _ => False)) { tmps := (ps.zip (enc t)).foldl (fun s (p, v) => s.setIfInBounds p v) a.tmps, defers := [] } W)
    (hbody : ∀ t W, t < N → w.heap.size + 1 < W.heap.size → I t W → body.wpIn (Fence.wide.inRound (w.heap.size + 1)) (n - 1 - 1) P (rangeBody (I (t + 1)) Ix (fun k => keep k ∨ k = w.heap.size ∨ k = w.heap.size + 1) W) (a₁ t) W)
    (hdone : ∀ W, I N W → W.heap[w.heap.size]? = some (.deferred (some [])) → Q .normal { a with defers := { target := .collected w.heap.size, args := #[] } :: a.defers } W)
    (hstop : ∀ c W, Ix c W → W.heap[w.heap.size]? = some (.deferred (some [])) → c.wpIn Fence.wide n P Q { a with defers := { target := .collected w.heap.size, args := #[] } :: a.defers } W) :
    (Code.rangeFunc g ps assign body).wpIn Fence.wide n P Q a w := by
  refine wpIn_rangeFunc ?_
  intro fn hfn
  obtain ⟨rec, hrec⟩ : ∃ rec : LoopState → Option Code → Loop, rec = fun st pe => { state := st, pending := pe, fn, tmps := a.tmps, params := ps, assign, body, defers := w.heap.size } := ⟨_, rfl⟩
  obtain ⟨W1, hW1⟩ : ∃ W1, (w.alloc (.deferred (some []))).alloc (.loop (rec .ready none)) = W1 := ⟨_, rfl⟩
  have hL1 : W1.heap[w.heap.size + 1]? = some (.loop (rec .ready none)) := by
    rw [← hW1]; exact alloc_heap_at _ _ _ (by simp)
  have hK1 : W1.heap[w.heap.size]? = some (.deferred (some [])) := by
    rw [← hW1]; exact alloc_heap_old _ (alloc_heap w _)
  have hI1 : I 0 W1 := by rw [← hW1]; exact hI 0 w _ h0 (((Far.refl _ _).alloc _).alloc _)
  have hb1 : Below w.heap.size w W1 := by rw [← hW1]; exact ((Below.refl _ w).alloc (Nat.le_refl _) _).alloc (by simp) _
  refine ⟨w.heap.size + 1, [{ target := .collected w.heap.size, args := #[] }], W1, { target := .fn (.func gf) lb, args := #[.func (.yield (w.heap.size + 1)) #[] #[]] }, W1, gf,
    #[.func (.yield (w.heap.size + 1)) #[] #[]] ++ lb, W1, ?_, ?_, ?_, ?_, fun h => absurd h (by simp [Fence.wide]), ?_⟩
  · rw [← hW1, hrec]; exact run_enterLoop_outer _ _ _ _ _
  · simp only [resolve, hg]
    simp [go_sem]
  · intro f' _; trivial
  · simp [invoke, go_sem, eg]
  · refine callsIn_wide.2 ((hiter (w.heap.size + 1)
      (fun t W => I t W ∧ W.heap[w.heap.size + 1]? = some (.loop (rec .ready none)) ∧ W.heap[w.heap.size]? = some (.deferred (some [])))
      (fun W => ∃ c, Ix c W ∧ W.heap[w.heap.size + 1]? = some (.loop (rec .done (some c))) ∧ W.heap[w.heap.size]? = some (.deferred (some [])))
      W1 hb1 ?_ ?_ (fun hx W ⟨c, hc, _⟩ => hX hx c W hc) ?_ ⟨hI1, hL1, hK1⟩).mono ?_)
    · rintro t W W' ⟨hi, hl, hk⟩ hf
      exact ⟨hI t W W' hi (hf.mono fun _ _ e => .inl e), hf.heap hl (fun e => by have := hown _ e; omega), hf.heap hk (fun e => by have := hown _ e; omega)⟩
    · rintro W W' ⟨c, hi, hl, hk⟩ hf
      exact ⟨c, hIx c W W' hi (hf.mono fun _ _ e => .inl e), hf.heap hl (fun e => by have := hown _ e; omega), hf.heap hk (fun e => by have := hown _ e; omega)⟩
    · rintro t ht W ⟨hi, hl, hk⟩
      have hlt : w.heap.size + 1 < W.heap.size := lt_of_heap hl
      have hy := run_yield (P := P) (args := enc t) hl (by rw [hrec]; exact hps t)
      rw [hrec] at hy
      refine ⟨fn, _, assign, body, hy, roundIn_of_wpIn trivial (hassign t W _ ⟨_, run_beginRound hl (by rw [hrec]), ?_⟩)⟩
      have hl2 : (W.putObj (w.heap.size + 1) (.loop { rec .ready none with state := .busy })).heap[w.heap.size + 1]? = some (.loop { rec .ready none with state := .busy }) := World.putObj_heap_same hlt
      have hk2 : (W.putObj (w.heap.size + 1) (.loop { rec .ready none with state := .busy })).heap[w.heap.size]? = some (.deferred (some [])) := (World.putObj_heap_other (by omega)).trans hk
      have hf2 : Far (· = w.heap.size + 1) W (W.putObj (w.heap.size + 1) (.loop { rec .ready none with state := .busy })) := far_putObj _ _ _
      have hi2 := hI t W _ hi (hf2.mono fun _ _ e => .inr e)
      refine wpIn_mono (hbody t _ ht (by simpa using hlt) hi2) ?_
      have fin : ∀ (jump : Option Code) (W3 : World), Far (fun k => ¬ (keep k ∨ k = w.heap.size ∨ k = w.heap.size + 1)) (W.putObj (w.heap.size + 1) (.loop { rec .ready none with state := .busy })) W3 →
          (Instr.endRound (w.heap.size + 1) jump).run P W3 = .ok (.bool jump.isNone) (W3.putObj (w.heap.size + 1) (.loop (rec (if jump.isNone then .ready else .done) jump))) ∧
          (W3.putObj (w.heap.size + 1) (.loop (rec (if jump.isNone then .ready else .done) jump))).heap[w.heap.size + 1]? = some (.loop (rec (if jump.isNone then .ready else .done) jump)) ∧
          (W3.putObj (w.heap.size + 1) (.loop (rec (if jump.isNone then .ready else .done) jump))).heap[w.heap.size]? = some (.deferred (some [])) ∧
          Far (fun k => ¬ keep k) W (W3.putObj (w.heap.size + 1) (.loop (rec (if jump.isNone then .ready else .done) jump))) := fun jump W3 hk3 => by
        have hl3 := hk3.heap hl2 (fun e => e (.inr (.inr rfl)))
        have hd3 := hk3.heap hk2 (fun e => e (.inr (.inl rfl)))
        have := run_endRound (P := P) jump hl3
        rw [hrec] at this ⊢
        refine ⟨this, World.putObj_heap_same (lt_of_heap hl3), (World.putObj_heap_other (by omega)).trans hd3, ?_⟩
        rw [hrec] at hk3
        rw [hrec] at hf2
        exact ((hf2.mono fun i _ e hki => by have := hkeep i hki; omega).step hk3 (fun i _ e hki => e (.inl hki))).step (far_putObj _ _ _) (fun i _ e hki => by have := hkeep i hki; omega)
      have frl : ∀ (W3 : World) (o : Obj), Far (fun k => own k ∨ k = w.heap.size + 1) W3 (W3.putObj (w.heap.size + 1) o) := fun W3 o => (far_putObj W3 _ o).mono fun _ _ e => .inr e
      rintro e a3 W3 hp
      cases e with
      | normal =>
        obtain ⟨hi3, hk3⟩ := hp
        obtain ⟨hr, hl4, hk4, hf4⟩ := fin none W3 hk3
        exact ⟨_, _, hr, .inl ⟨rfl, ⟨hI _ _ _ hi3 (frl _ _), hl4, hk4⟩, hf4⟩⟩
      | ret =>
        obtain ⟨hi3, hk3⟩ := hp
        obtain ⟨hr, hl4, hk4, hf4⟩ := fin (some .ret) W3 hk3
        exact ⟨_, _, hr, .inr ⟨rfl, .ret, hIx _ _ _ hi3 (frl _ _), hl4, hk4⟩⟩
      | exit id =>
        obtain ⟨hi3, hk3⟩ := hp
        obtain ⟨hr, hl4, hk4, hf4⟩ := fin (some (.exit id)) W3 hk3
        exact ⟨_, _, hr, .inr ⟨rfl, .exit id, hIx _ _ _ hi3 (frl _ _), hl4, hk4⟩⟩
      | goto t =>
        obtain ⟨hi3, hk3⟩ := hp
        obtain ⟨hr, hl4, hk4, hf4⟩ := fin (some (.goto t)) W3 hk3
        exact ⟨_, _, hr, .inr ⟨rfl, .goto t, hIx _ _ _ hi3 (frl _ _), hl4, hk4⟩⟩
      | panic ch => exact hp.elim
      | outgrown => exact hp.elim
    · have frl : ∀ (W3 : World) (o : Obj), Far (fun k => own k ∨ k = w.heap.size + 1) W3 (W3.putObj (w.heap.size + 1) o) := fun W3 o => (far_putObj W3 _ o).mono fun _ _ e => .inr e
      rintro e W2 ⟨⟨v, rfl⟩, (⟨hi, hl, hk⟩ | ⟨c, hi, hl, hk⟩)⟩
      · exact ⟨none, _, by have := run_endLoop (P := P) hl (by rw [hrec]; simp); rw [hrec] at this; exact this, hdone _ (hI _ _ _ hi (frl _ _)) ((World.putObj_heap_other (by omega)).trans hk)⟩
      · exact ⟨some c, _, by have := run_endLoop (P := P) hl (by rw [hrec]; simp); rw [hrec] at this; exact this, hstop c _ (hIx c _ _ hi (frl _ _)) ((World.putObj_heap_other (by omega)).trans hk)⟩
end Go.Proofs.YtofikmdfiimbbaaDoor
