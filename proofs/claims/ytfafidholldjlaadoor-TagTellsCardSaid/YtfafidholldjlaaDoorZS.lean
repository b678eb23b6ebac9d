/- The law for a range over a function whose iterator and body share a block. -/
import Derived.Test.YtfafidholldjlaaDoorZA
import Derived.Test.YtfafidholldjlaaDoorZU
import Derived.Test.YtfafidholldjlaaDoorZB
set_option linter.unusedVariables false
set_option linter.unusedSimpArgs false
namespace Go.Proofs.YtfafidholldjlaaDoor
open Go.RowKit
/-- What an iterator promises: N rounds, or fewer if a round says so (X: it takes such rounds in). -/
def Iter3 (X : Bool) (P : Program) (gf : Nat) (lb : Array Value) (m : Nat) (N : Nat) (enc : Nat → Array Value) (R S : World → World → Prop) (Fin : World → Prop) (w : World) : Prop :=
  ∀ (l : Nat) (J : Nat → World → Prop) (Jx : World → Prop) (W1 : World), Below w.heap.size w W1 → w.heap.size + 2 ≤ W1.heap.size → (∀ t W W', J t W → R W W' → J t W') → (∀ W W', Jx W → R W W' → Jx W') → (X = false → ∀ W, ¬ Jx W) →
    (∀ t, t < N → ∀ W, J t W → YieldAt Fence.wide m P l (enc t) W fun e W' => (e = .returned (.bool true) ∧ J (t + 1) W' ∧ S W W') ∨ (e = .returned (.bool false) ∧ Jx W')) →
    J 0 W1 → Calls P gf (#[.func (.yield l) #[] #[]] ++ lb) W1 fun e W' => (∃ v, e = .returned v) ∧ ((J N W' ∧ Fin W') ∨ Jx W')
/-- What a body must achieve. -/
def rangeBody3 (I : World → Prop) (Ix : Code → World → Prop) (b : Nat) (S : World → World → Prop) (W : World) : Exit → Act → World → Prop
  | .normal, _, W' => I W' ∧ Far (fun k => k ≠ b ∧ k ≠ b + 1) W W' ∧ S W W'
  | .ret, _, W' => Ix .ret W' ∧ Far (fun k => k ≠ b ∧ k ≠ b + 1) W W' ∧ S W W'
  | .exit id, _, W' => Ix (.exit id) W' ∧ Far (fun k => k ≠ b ∧ k ≠ b + 1) W W' ∧ S W W'
  | .goto t, _, W' => Ix (.goto t) W' ∧ Far (fun k => k ≠ b ∧ k ≠ b + 1) W W' ∧ S W W'
  | .panic _, _, _ => False
  | .outgrown, _, _ => False
theorem range_law3 {X : Bool} {P : Program} {n : Nat} {g : Operand} {ps : Array Tmp} {assign body : Code} {Q : Exit → Act → World → Prop} {a : Act} {w : World} {gf : Nat} {lb : Array Value} {N : Nat} {enc : Nat → Array Value} {R S : World → World → Prop} {Fin : World → Prop}
    (hg : a.eval g = .func (.func gf) #[] lb) (eg : ∀ args w, (callFunc gf args).run P w = .ok (.enter gf args) w)
    (hiter : Iter3 X P gf lb (n - 1 - 1) N enc R S Fin w) (hF : ∀ W W', Fin W → Far (· = w.heap.size + 1) W W' → Fin W') (hR : ∀ W W', R W W' → Far (fun k => k ≠ w.heap.size ∧ k ≠ w.heap.size + 1) W W')
    (hS : ∀ A B C D, Far (· = w.heap.size + 1) A B → S B C → Far (· = w.heap.size + 1) C D → S A D) (hps : ∀ t, (enc t).size = ps.size)
    (I : Nat → World → Prop) (Ix : Code → World → Prop)
    (hIr : ∀ t W W', I t W → R W W' → I t W') (hIxr : ∀ c W W', Ix c W → R W W' → Ix c W')
    (hI : ∀ t W W', I t W → Far (· = w.heap.size + 1) W W' → I t W') (hIx : ∀ c W W', Ix c W → Far (· = w.heap.size + 1) W W' → Ix c W')
    (hX : X = false → ∀ c W, ¬ Ix c W) (h0 : I 0 w) (a₁ : Nat → Act)
    (hassign : ∀ t W (K : Act → World → Prop), K (a₁ t) W → assign.wpIn (Fence.wide.inRound (w.heap.size + 1)) (n - 1 - 1) P (Exit.then K (fun _ _ _ => False)) { tmps := (ps.zip (enc t)).foldl (fun s (p, v) => s.setIfInBounds p v) a.tmps, defers := [] } W)
    (hbody : ∀ t W, t < N → w.heap.size + 1 < W.heap.size → I t W → body.wpIn (Fence.wide.inRound (w.heap.size + 1)) (n - 1 - 1) P (rangeBody3 (I (t + 1)) Ix w.heap.size S W) (a₁ t) W)
    (hdone : ∀ W, I N W → Fin W → W.heap[w.heap.size]? = some (.deferred (some [])) → Q .normal { a with defers := { target := .collected w.heap.size, args := #[] } :: a.defers } W)
    (hstop : ∀ c W, Ix c W → W.heap[w.heap.size]? = some (.deferred (some [])) → c.wpIn Fence.wide n P Q { a with defers := { target := .collected w.heap.size, args := #[] } :: a.defers } W) :
    (Code.rangeFunc g ps assign body).wpIn Fence.wide n P Q a w := by
  refine wpIn_rangeFunc ?_
  intro fn hfn
  obtain ⟨rec, hrec⟩ : ∃ rec : LoopState → Option Code → Loop, rec = fun st pe => { state := st, pending := pe, fn, tmps := a.tmps, params := ps, assign, body, defers := w.heap.size } := ⟨_, rfl⟩
  obtain ⟨W1, hW1⟩ : ∃ W1, (w.alloc (.deferred (some []))).alloc (.loop (rec .ready none)) = W1 := ⟨_, rfl⟩
  have hL1 : W1.heap[w.heap.size + 1]? = some (.loop (rec .ready none)) := by
    rw [← hW1]; exact alloc_heap_at _ _ _ (by simp)
  have hK1 : W1.heap[w.heap.size]? = some (.deferred (some [])) := by
    rw [← hW1]; exact alloc_heap_old _ (alloc_heap w _)
  have hI1 : I 0 W1 := by rw [← hW1]; exact hI 0 w _ h0 (((Far.refl _ _).alloc _).alloc _)
  have hb1 : Below w.heap.size w W1 := by rw [← hW1]; exact ((Below.refl _ w).alloc (Nat.le_refl _) _).alloc (by simp) _
  refine ⟨w.heap.size + 1, [{ target := .collected w.heap.size, args := #[] }], W1, { target := .fn (.func gf) lb, args := #[.func (.yield (w.heap.size + 1)) #[] #[]] }, W1, gf,
    #[.func (.yield (w.heap.size + 1)) #[] #[]] ++ lb, W1, ?_, ?_, ?_, ?_, fun h => absurd h (by simp [Fence.wide]), ?_⟩
  · rw [← hW1, hrec]; exact run_enterLoop_outer _ _ _ _ _
  · simp only [resolve, hg]
    simp [go_sem]
  · intro f' _; trivial
  · simp [invoke, go_sem, eg]
  · refine callsIn_wide.2 ((hiter (w.heap.size + 1)
      (fun t W => I t W ∧ W.heap[w.heap.size + 1]? = some (.loop (rec .ready none)) ∧ W.heap[w.heap.size]? = some (.deferred (some [])))
      (fun W => ∃ c, Ix c W ∧ W.heap[w.heap.size + 1]? = some (.loop (rec .done (some c))) ∧ W.heap[w.heap.size]? = some (.deferred (some [])))
      W1 hb1 (by rw [← hW1]; simp) ?_ ?_ (fun hx W ⟨c, hc, _⟩ => hX hx c W hc) ?_ ⟨hI1, hL1, hK1⟩).mono ?_)
    · rintro t W W' ⟨hi, hl, hk⟩ hf
      exact ⟨hIr t W W' hi hf, (hR _ _ hf).heap hl (fun e => e.2 rfl), (hR _ _ hf).heap hk (fun e => e.1 rfl)⟩
    · rintro W W' ⟨c, hi, hl, hk⟩ hf
      exact ⟨c, hIxr c W W' hi hf, (hR _ _ hf).heap hl (fun e => e.2 rfl), (hR _ _ hf).heap hk (fun e => e.1 rfl)⟩
    · rintro t ht W ⟨hi, hl, hk⟩
      have hlt : w.heap.size + 1 < W.heap.size := lt_of_heap hl
      have hy := run_yield (P := P) (args := enc t) hl (by rw [hrec]; exact hps t)
      rw [hrec] at hy
      refine ⟨fn, _, assign, body, hy, roundIn_of_wpIn trivial (hassign t W _ ⟨_, run_beginRound hl (by rw [hrec]), ?_⟩)⟩
      have hl2 : (W.putObj (w.heap.size + 1) (.loop { rec .ready none with state := .busy })).heap[w.heap.size + 1]? = some (.loop { rec .ready none with state := .busy }) := World.putObj_heap_same hlt
      have hk2 : (W.putObj (w.heap.size + 1) (.loop { rec .ready none with state := .busy })).heap[w.heap.size]? = some (.deferred (some [])) := (World.putObj_heap_other (by omega)).trans hk
      have hf2 : Far (· = w.heap.size + 1) W (W.putObj (w.heap.size + 1) (.loop { rec .ready none with state := .busy })) := far_putObj _ _ _
      have hi2 := hI t W _ hi hf2
      refine wpIn_mono (hbody t _ ht (by simpa using hlt) hi2) ?_
      have fin : ∀ (jump : Option Code) (W3 : World), (Far (fun k => k ≠ w.heap.size ∧ k ≠ w.heap.size + 1) (W.putObj (w.heap.size + 1) (.loop { rec .ready none with state := .busy })) W3 ∧ S (W.putObj (w.heap.size + 1) (.loop { rec .ready none with state := .busy })) W3) →
          (Instr.endRound (w.heap.size + 1) jump).run P W3 = .ok (.bool jump.isNone) (W3.putObj (w.heap.size + 1) (.loop (rec (if jump.isNone then .ready else .done) jump))) ∧
          (W3.putObj (w.heap.size + 1) (.loop (rec (if jump.isNone then .ready else .done) jump))).heap[w.heap.size + 1]? = some (.loop (rec (if jump.isNone then .ready else .done) jump)) ∧
          (W3.putObj (w.heap.size + 1) (.loop (rec (if jump.isNone then .ready else .done) jump))).heap[w.heap.size]? = some (.deferred (some [])) ∧
          S W (W3.putObj (w.heap.size + 1) (.loop (rec (if jump.isNone then .ready else .done) jump))) := fun jump W3 hk3 => by
        have hl3 := hk3.1.heap hl2 (fun e => e.2 rfl)
        have hd3 := hk3.1.heap hk2 (fun e => e.1 rfl)
        have := run_endRound (P := P) jump hl3
        rw [hrec] at this ⊢
        refine ⟨this, World.putObj_heap_same (lt_of_heap hl3), (World.putObj_heap_other (by omega)).trans hd3, ?_⟩
        rw [hrec] at hk3
        rw [hrec] at hf2
        exact hS _ _ _ _ hf2 hk3.2 (far_putObj _ _ _)
      have frl : ∀ (W3 : World) (o : Obj), Far (· = w.heap.size + 1) W3 (W3.putObj (w.heap.size + 1) o) := fun W3 o => far_putObj W3 _ o
      rintro e a3 W3 hp
      cases e with
      | normal =>
        obtain ⟨hi3, hk3⟩ := hp
        obtain ⟨hr, hl4, hk4, hf4⟩ := fin none W3 hk3
        exact ⟨_, _, hr, .inl ⟨rfl, ⟨hI _ _ _ hi3 (frl _ _), hl4, hk4⟩, hf4⟩⟩
      | ret =>
        obtain ⟨hi3, hk3⟩ := hp
        obtain ⟨hr, hl4, hk4, hf4⟩ := fin (some .ret) W3 hk3
        exact ⟨_, _, hr, .inr ⟨rfl, .ret, hIx _ _ _ hi3 (frl _ _), hl4, hk4⟩⟩
      | exit id =>
        obtain ⟨hi3, hk3⟩ := hp
        obtain ⟨hr, hl4, hk4, hf4⟩ := fin (some (.exit id)) W3 hk3
        exact ⟨_, _, hr, .inr ⟨rfl, .exit id, hIx _ _ _ hi3 (frl _ _), hl4, hk4⟩⟩
      | goto t =>
        obtain ⟨hi3, hk3⟩ := hp
        obtain ⟨hr, hl4, hk4, hf4⟩ := fin (some (.goto t)) W3 hk3
        exact ⟨_, _, hr, .inr ⟨rfl, .goto t, hIx _ _ _ hi3 (frl _ _), hl4, hk4⟩⟩
      | panic ch => exact hp.elim
      | outgrown => exact hp.elim
    · have frl : ∀ (W3 : World) (o : Obj), Far (· = w.heap.size + 1) W3 (W3.putObj (w.heap.size + 1) o) := fun W3 o => far_putObj W3 _ o
      rintro e W2 ⟨⟨v, rfl⟩, (⟨⟨hi, hl, hk⟩, hfin⟩ | ⟨c, hi, hl, hk⟩)⟩
      · exact ⟨none, _, by have := run_endLoop (P := P) hl (by rw [hrec]; simp); rw [hrec] at this; exact this, hdone _ (hI _ _ _ hi (frl _ _)) (hF _ _ hfin (frl _ _)) ((World.putObj_heap_other (by omega)).trans hk)⟩
      · exact ⟨some c, _, by have := run_endLoop (P := P) hl (by rw [hrec]; simp); rw [hrec] at this; exact this, hstop c _ (hIx c _ _ hi (frl _ _)) ((World.putObj_heap_other (by omega)).trans hk)⟩
end Go.Proofs.YtfafidholldjlaaDoor
/- What a text's signs are worth, as an iterator. -/
set_option linter.unusedVariables false
set_option linter.unusedSimpArgs false
namespace Go.Proofs.YtfafidholldjlaaDoor
open Go.RowKit
attribute [local go_sem] setCell_twice
attribute [local go_sem ↓] Go.wp_at_zero Go.wp_at_succ
/-- What the signs of a text are worth, from a place on. -/
def vals (s : ByteArray) : Nat → Nat → List Int
  | 0, _ => []
  | f + 1, pos => if pos < s.size then runeVal (Utf8.decode s pos).1 :: vals s f (pos + (Utf8.decode s pos).2) else []
theorem vals_end (s : ByteArray) (f pos : Nat) (h : ¬ pos < s.size) : vals s f pos = [] := by
  cases f with
  | zero => rfl
  | succ f => simp [vals, h]
theorem vals_step (s : ByteArray) (f pos : Nat) (h : pos < s.size) : vals s (f + 1) pos = runeVal (Utf8.decode s pos).1 :: vals s f (pos + (Utf8.decode s pos).2) := by
  simp [vals, h]
theorem width_pos (s : ByteArray) (pos : Nat) (h : pos < s.size) : 1 ≤ (Utf8.decode s pos).2 := by
  by_cases ha : (s[pos]'h).toNat < 128
  · rw [decode_ascii s pos h ha]
    exact Nat.le_refl _
  · exact (decode_high s pos h (by omega)).2
theorem get_byteAt (s : ByteArray) (pos : Nat) (h : pos < s.size) : (s[pos]'h).toNat = byteAt s pos := by
  unfold byteAt
  have h' : pos < s.data.size := h
  rw [List.getD_eq_getElem?_getD, List.getElem?_eq_getElem (by simpa using h')]
  rfl
/-- What an iterator does to the world: cells are kept. -/
def VR (b : Nat) (W W' : World) : Prop := Far (fun k => b + 2 ≤ k) W W' ∧ ∀ (k : Nat) (c : Array Value) (T : TypeId) (m : Nat × Nat), W.heap[k]? = some (Obj.cells c T m) → W'.heap[k]? = some (Obj.cells c T m)
/-- What a body does: iterators are kept. -/
def VS (b : Nat) (W W' : World) : Prop := W.heap.size ≤ W'.heap.size ∧ ∀ (k : Nat) (s : ByteArray) (p : Nat), b + 2 ≤ k → W.heap[k]? = some (Obj.stringIter s p) → W'.heap[k]? = some (Obj.stringIter s p)
theorem VR.of_below {b : Nat} {W W' : World} (h : Below W.heap.size W W') : VR b W W' :=
  ⟨⟨h.os, h.tape, h.output, h.size, fun k hk _ => h.block k hk⟩, fun k c T m e => (h.block k (lt_of_heap e)).trans e⟩
theorem VR.at_iter {b : Nat} {W : World} {k0 : Nat} {s : ByteArray} {p : Nat} (hk : W.heap[k0]? = some (.stringIter s p)) (hb : b + 2 ≤ k0) (q : Nat) : VR b W (W.iterAt k0 s q) := by
  have hh : ∀ k, k ≠ k0 → (W.iterAt k0 s q).heap[k]? = W.heap[k]? := by
    intro k hne
    simp only [World.iterAt]
    rw [Array.getElem?_setIfInBounds_ne (by omega)]
  refine ⟨⟨rfl, rfl, rfl, by rw [Lib.iterAt_size]; exact Nat.le_refl _, fun k _ hn => hh k (by omega)⟩, fun k c T m e => ?_⟩
  exact (hh k (by rintro rfl; rw [hk] at e; simp at e)).trans e
set_option maxRecDepth 100000 in
set_option maxHeartbeats 2000000 in
theorem values_calls (s : ByteArray) (l bs b : Nat) (J : Nat → World → Prop) (Jx : World → Prop)
    (hJ : ∀ t W W', J t W → VR b W W' → J t W')
    (hY : ∀ t, t < (vals s s.size 0).length → ∀ W, J t W → YieldAt Fence.wide 3 Tryd.prog l #[.int .i64 ((vals s s.size 0).getD t 0)] W fun e W' => (e = .returned (.bool true) ∧ J (t + 1) W' ∧ VS b W W') ∨ (e = .returned (.bool false) ∧ Jx W'))
    (W : World) (hbs : W.heap[bs]? = some (.cells #[.string s] 9 (0, 0))) (hb : b + 2 ≤ W.heap.size) (h0 : J 0 W) :
    Calls Tryd.prog 90 #[.func (.yield l) #[] #[], .pointer (some ⟨bs, 0, none⟩)] W fun e W' => e = .returned (.tuple #[]) ∧ (J (vals s s.size 0).length W' ∨ Jx W') := by
  obtain ⟨vs, hvs⟩ : ∃ vs, vals s s.size 0 = vs := ⟨_, rfl⟩
  rw [hvs] at hY ⊢
  have HJ := Lib.hid hJ
  have HY := Lib.hid hY
  have HV := Lib.hid hvs
  have hc : W.cell? ⟨bs, 0, none⟩ = some (.string s) := cell_of hbs 0
  have hJ0 : J 0 (W.iter s 0) := hJ 0 W _ h0 (VR.of_below ((Below.refl _ _).alloc (Nat.le_refl _) _))
  have hi0 : (W.iter s 0).heap[W.heap.size]? = some (.stringIter s 0) := World.iter_heap W s 0
  clear hJ hY hbs h0 hvs
  go_enter Tryd.func90, Tryd.ntmps90
  go_wp2_with fail
  go_step3
  go_wp2_with fail
  go_step3
  go_wp2_with fail
  go_loopw [4] (fun _ wr => ∃ t pos f : Nat, wr.heap[W.heap.size]? = some (.stringIter s pos) ∧ vs.drop t = vals s f pos ∧ t ≤ vs.length ∧ s.size ≤ pos + f ∧ J t wr) (fun _ wr => s.size - wr.iterPos W.heap.size)
  case atStart => exact ⟨0, 0, s.size, hi0, by simpa using HV.out.symm, Nat.zero_le _, by omega, hJ0⟩
  case round =>
    obtain ⟨t, pos, f, hit, hdr, htl, hsz, rJ⟩ := hrel
    by_cases hp : pos < s.size
    · obtain ⟨g, rfl⟩ : ∃ g, f = g + 1 := ⟨f - 1, by omega⟩
      rw [vals_step s g pos hp] at hdr
      have htlt : t < vs.length := by
        by_cases h : t < vs.length
        · exact h
        · rw [List.drop_eq_nil_of_le (by omega)] at hdr
          exact absurd hdr (by simp)
      have hnx : ∀ ty, (Instr.next (.pointer (some ⟨W.heap.size, 0, none⟩)) true ty).run Tryd.prog wr = _ := fun ty => Lib.run_next_any_at wr W.heap.size s pos ty hit hp
      have hgd : vs.getD t 0 = runeVal (Utf8.decode s pos).1 := by
        have e := congrArg (fun x => x[0]?) hdr
        simp only [List.getElem?_drop, Nat.add_zero, List.getElem?_cons_zero] at e
        rw [List.getD_eq_getElem?_getD, e]
        rfl
      have hdr' : vs.drop (t + 1) = vals s g (pos + (Utf8.decode s pos).2) := by
        have e := congrArg List.tail hdr
        simpa [List.tail_drop] using e
      have hwd := width_pos s pos hp
      have hcall := fun w => rune_any s pos hp w
      have hmu : wr.iterPos W.heap.size = pos := by simp [World.iterPos, hit]
      have hit1 := Lib.iterAt_heap wr W.heap.size s pos (pos + (Utf8.decode s pos).2) hit
      have hJ1 := HJ.out t _ _ rJ (VR.at_iter hit hb (pos + (Utf8.decode s pos).2))
      generalize wr.iterAt W.heap.size s (pos + (Utf8.decode s pos).2) = W1 at hnx hit1 hJ1
      generalize runeVal (Utf8.decode s pos).1 = v at hcall hgd hdr
      generalize (Utf8.decode s pos).1 = r at hnx hcall
      generalize (Utf8.decode s pos).2 = d at hit1 hwd hdr'
      have HC := Lib.hid hcall
      clear hcall rJ hit
      go_upto_region 3 with (fail)
      clear hnx
      refine (wpIn_wide (n := 4)).1 ?_
      gi_wp2
      refine ⟨trivial, (callsIn_wide.2 (HC.out _)).mono ?_⟩
      rintro e W2 ⟨rfl, hb2⟩
      have hit2 : W2.heap[W.heap.size]? = some (.stringIter s (pos + d)) := (hb2.block _ (lt_of_heap hit1)).trans hit1
      have hJ2 := HJ.out t _ _ hJ1 (VR.of_below hb2)
      obtain ⟨fn, tmps, assign, body, hy, hR⟩ := HY.out t htlt W2 hJ2
      rw [hgd] at hy
      have RR := Lib.hid hR
      clear hR
      gi_wp2
      refine (RR.out).mono ?_
      rintro e W3 (⟨rfl, hJ3, hS3⟩ | ⟨rfl, hx⟩)
      · gi_wp2
        go_wp2_with fail
        go_roundw
        case rel => exact ⟨t + 1, pos + d, g, hS3.2 _ _ _ hb hit2, hdr', by omega, by omega, hJ3⟩
        case measure =>
          have hmu2 : W3.iterPos W.heap.size = pos + d := by simp [World.iterPos, hS3.2 _ _ _ hb hit2]
          rw [hmu, hmu2]
          omega
      · gi_wp2
        go_wp2_with fail
        rw [Exit.noGoto_normal]
        go_end0
        exact ⟨rfl, .inr hx⟩
    · have hnx : ∀ ty, (Instr.next (.pointer (some ⟨W.heap.size, 0, none⟩)) true ty).run Tryd.prog wr = _ := fun ty => Lib.run_next_end_at wr W.heap.size s pos ty hit hp
      rw [vals_end s f pos hp] at hdr
      have htn : t = vs.length := by
        have e := congrArg List.length hdr
        simp at e
        omega
      subst htn
      go_wp2_with fail
      rw [Exit.noGoto_normal]
      go_end0
      exact ⟨rfl, .inl rJ⟩
end Go.Proofs.YtfafidholldjlaaDoor
/- Texts of digits, of package tag. -/
set_option linter.unusedVariables false
set_option linter.unusedSimpArgs false
namespace Go.Proofs.YtfafidholldjlaaDoor
open Go.RowKit
attribute [local go_sem] setCell_twice
attribute [local go_sem] Oper.semAt_some
theorem valI_high (c : Nat) (h : 128 ≤ c) : valI c = -1 := by
  unfold valI
  rw [if_neg (by omega), if_neg (by omega)]
theorem runeVal_byte (s : ByteArray) (pos : Nat) (h : pos < s.size) : runeVal (Utf8.decode s pos).1 = valI (byteAt s pos) := by
  rw [← get_byteAt s pos h]
  unfold runeVal
  by_cases ha : (s[pos]'h).toNat < 128
  · rw [decode_ascii s pos h ha]
    exact if_pos ha
  · have hd := (decode_high s pos h (by omega)).1
    rw [if_neg (by omega), valI_high _ (by omega)]
theorem width_one (s : ByteArray) (pos : Nat) (h : pos < s.size) (hv : 0 ≤ valI (byteAt s pos)) : (Utf8.decode s pos).2 = 1 := by
  rw [← get_byteAt s pos h] at hv
  by_cases ha : (s[pos]'h).toNat < 128
  · rw [decode_ascii s pos h ha]
  · rw [valI_high _ (by omega)] at hv
    omega
theorem vals_at (s : ByteArray) : ∀ (t f pos : Nat), t < (vals s f pos).length → (∀ k, k < t → 0 ≤ (vals s f pos).getD k 0) → pos + t < s.size ∧ (vals s f pos).getD t 0 = valI (byteAt s (pos + t))
  | t, 0, pos, ht, _ => absurd ht (by simp [vals])
  | t, f + 1, pos, ht, hk => by
    by_cases hp : pos < s.size
    · rw [vals_step s f pos hp] at ht hk ⊢
      cases t with
      | zero => exact ⟨hp, runeVal_byte s pos hp⟩
      | succ t =>
        have h0 : 0 ≤ valI (byteAt s pos) := by
          have := hk 0 (by omega)
          rw [← runeVal_byte s pos hp]
          exact this
        rw [width_one s pos hp h0] at ht hk ⊢
        have ih := vals_at s t f (pos + 1) (by simpa using ht) (fun k hkt => by simpa using hk (k + 1) (by omega))
        refine ⟨by omega, ?_⟩
        have e : pos + (t + 1) = pos + 1 + t := by omega
        rw [e, ← ih.2]
        rfl
    · rw [vals_end s _ pos hp] at ht
      exact absurd ht (by simp)
theorem vals_length (s : ByteArray) : ∀ (f pos : Nat), s.size ≤ pos + f → pos ≤ s.size → (∀ k, k < (vals s f pos).length → 0 ≤ (vals s f pos).getD k 0) → (vals s f pos).length = s.size - pos
  | 0, pos, h1, h2, _ => by simp [vals]; omega
  | f + 1, pos, h1, h2, hk => by
    by_cases hp : pos < s.size
    · rw [vals_step s f pos hp] at hk ⊢
      have h0 : 0 ≤ valI (byteAt s pos) := by
        have := hk 0 (by simp)
        rw [← runeVal_byte s pos hp]
        exact this
      rw [width_one s pos hp h0] at hk ⊢
      have ih := vals_length s f (pos + 1) (by omega) (by omega) (fun k hkt => by simpa using hk (k + 1) (by simpa using hkt))
      simp only [List.length_cons, ih]
      omega
    · rw [vals_end s _ pos hp]
      simp
      omega
theorem enters90 (args : Array Value) (w : World) : (callFunc 90 args).run Tryd.prog w = .ok (.enter 90 args) w := by kernel_rfl
theorem values_any (s : ByteArray) (w : World) : Calls Tryd.prog 79 #[.string s] w fun e w' => e = .returned (.func (.func 90) #[] #[.pointer (some ⟨w.heap.size, 0, none⟩)]) ∧ w' = w.alloc (.cells #[.string s] 9) := by
  go_enter Tryd.func79, Tryd.ntmps79
  go_wp2
  go_ret
  exact ⟨rfl, rfl⟩
theorem values_iter (s : ByteArray) (bs : Nat) (w : World) (hbs : w.heap[bs]? = some (.cells #[.string s] 9 (0, 0))) :
    Iter3 true Tryd.prog 90 #[.pointer (some ⟨bs, 0, none⟩)] 3 (vals s s.size 0).length (fun t => #[.int .i64 ((vals s s.size 0).getD t 0)]) (VR w.heap.size) (VS w.heap.size) (fun _ => True) w := by
  intro l J Jx W1 hb hsz hJ hJx _ hY h0
  refine (values_calls s l bs w.heap.size J Jx hJ hY W1 ((hb.block _ (lt_of_heap hbs)).trans hbs) hsz h0).mono ?_
  rintro e W' ⟨rfl, h⟩
  refine ⟨⟨_, rfl⟩, ?_⟩
  rcases h with h | h
  · exact .inl ⟨h, trivial⟩
  · exact .inr h
theorem ownsRow_vr {b : Nat} {W W' : World} {base : Nat} {e : TypeId} {size : Nat} {v : Value} {n : Nat} {xs : List Value} (h : W.ownsRow base e size v n xs) (hf : VR b W W') : W'.ownsRow base e size v n xs := by
  refine ⟨h.1, ?_⟩
  rcases h.2 with hn | ⟨g, cap, cur, rfl, hb, hgg, rest⟩
  · exact .inl hn
  · exact .inr ⟨g, cap, cur, rfl, hb, hf.2 _ _ _ _ hgg, rest⟩
theorem VR.to_below {b B : Nat} {A W W' : World} (h : VR b W W') (hb : Below B A W) (hB : B ≤ b + 2) (hs : B ≤ A.heap.size) : Below B A W' :=
  hb.trans (h.1.to_below (Nat.le_trans hs hb.size) (fun k hk hd => by omega))
end Go.Proofs.YtfafidholldjlaaDoor
/- Unhex. -/
set_option linter.unusedVariables false
set_option linter.unusedSimpArgs false
namespace Go.Proofs.YtfafidholldjlaaDoor
open Go.RowKit
attribute [local go_sem] setCell_twice
attribute [local go_sem] Oper.semAt_some
/-- What stands between two rounds. -/
def UI (s : ByteArray) (w : World) (t : Nat) (W : World) : Prop :=
  (∃ v, W.heap[w.heap.size + 1 + 1]? = some (.cells #[v] 40 (0, 0)) ∧ W.ownsRow (w.heap.size + 7) 5 1 v (t / 2) (byteCells (unhexTo s (t / 2)).data.toList)) ∧
  W.heap[w.heap.size + 1 + 1 + 1]? = some (.cells #[.int .i64 (if t % 2 = 0 then -1 else valI (byteAt s (t - 1)))] 3 (0, 0)) ∧
  W.heap[w.heap.size]? = some (.cells #[.string ⟨#[]⟩] 9 (0, 0)) ∧ W.heap[w.heap.size + 1]? = some (.cells #[.int .i64 0] 27 (0, 0)) ∧
  (∀ k, k < t → 0 ≤ (vals s s.size 0).getD k 0) ∧ Below w.heap.size w W
/-- What stands where a round has ended all. -/
def UX (s : ByteArray) (w : World) (W : World) : Prop :=
  ¬ hexOK s ∧ W.heap[w.heap.size]? = some (.cells #[.string ⟨#[]⟩] 9 (0, 0)) ∧ W.heap[w.heap.size + 1]? = some (.cells #[.int .i64 30] 27 (0, 0)) ∧ Below w.heap.size w W
theorem UI.far {s : ByteArray} {w : World} {t : Nat} {W W' : World} (h : UI s w t W) (hf : Far (· = w.heap.size + 6) W W') : UI s w t W' := by
  obtain ⟨⟨v, q1, q2⟩, q3, q4, q5, q6, q7⟩ := h
  exact ⟨⟨v, hf.heap q1 (by omega), ownsRow_far q2 hf (by omega)⟩, hf.heap q3 (by omega), hf.heap q4 (by omega), hf.heap q5 (by omega), q6, q7.trans (hf.to_below q7.size (by omega))⟩
theorem UI.vr {s : ByteArray} {w : World} {t : Nat} {W W' : World} (h : UI s w t W) (hf : VR (w.heap.size + 5) W W') : UI s w t W' := by
  obtain ⟨⟨v, q1, q2⟩, q3, q4, q5, q6, q7⟩ := h
  exact ⟨⟨v, hf.2 _ _ _ _ q1, ownsRow_vr q2 hf⟩, hf.2 _ _ _ _ q3, hf.2 _ _ _ _ q4, hf.2 _ _ _ _ q5, q6, hf.to_below q7 (by omega) (Nat.le_refl _)⟩
theorem UX.far {s : ByteArray} {w : World} {W W' : World} (h : UX s w W) (hf : Far (· = w.heap.size + 6) W W') : UX s w W' := by
  obtain ⟨q0, q4, q5, q7⟩ := h
  exact ⟨q0, hf.heap q4 (by omega), hf.heap q5 (by omega), q7.trans (hf.to_below q7.size (by omega))⟩
theorem UX.vr {s : ByteArray} {w : World} {W W' : World} (h : UX s w W) (hf : VR (w.heap.size + 5) W W') : UX s w W' := by
  obtain ⟨q0, q4, q5, q7⟩ := h
  exact ⟨q0, hf.2 _ _ _ _ q4, hf.2 _ _ _ _ q5, hf.to_below q7 (by omega) (Nat.le_refl _)⟩
theorem VS.fars {b : Nat} {A B C D : World} (f1 : Far (· = b + 1) A B) (h : VS b B C) (f3 : Far (· = b + 1) C D) : VS b A D :=
  ⟨Nat.le_trans f1.size (Nat.le_trans h.1 f3.size), fun k s p hk e => f3.heap (h.2 k s p hk (f1.heap e (by omega))) (by omega)⟩
theorem VS.of_far {b : Nat} {D : Nat → Prop} {W W' : World} (h : Far D W W') (hD : ∀ k, b + 2 ≤ k → ¬ D k) : VS b W W' := ⟨h.size, fun k s p hk e => h.heap e (hD k hk)⟩
theorem VS.andThen {b : Nat} {A B C : World} (h : VS b A B) (k : VS b B C) : VS b A C := ⟨Nat.le_trans h.1 k.1, fun i s p hi e => k.2 i s p hi (h.2 i s p hi e)⟩
theorem VS.of_grown {b : Nat} {W w2 : World} {o : Obj} {base : Nat} {e : TypeId} {size : Nat} {v : Value} {n : Nat} {xs : List Value} (hrow : W.ownsRow base e size v n xs) (hg : (W.alloc o).grownBy w2 v.ownBlock) : VS b W w2 := by
  refine ⟨Nat.le_trans (by simp) hg.size, fun k s p hk ek => ?_⟩
  refine (hg.block k (by have := lt_of_heap ek; simp; omega) ?_).trans (alloc_heap_old _ ek)
  intro h
  rcases hrow.2 with ⟨rfl, _⟩ | ⟨g, cap, cur, rfl, _, hgg, _⟩
  · simp [Value.ownBlock] at h
  · simp only [Value.ownBlock, Option.some.injEq] at h
    subst h
    rw [ek] at hgg
    simp at hgg
theorem unhex_data (s : ByteArray) (i : Nat) : byteCells (unhexTo s (i + 1)).data.toList = byteCells (unhexTo s i).data.toList ++ [.int .u8 ((pairAt s i).toNat : Int)] := by
  simp [unhexTo, List.range_succ, byteCells]
theorem join_i64 (y x : Int) (y0 : 0 ≤ y) (y1 : y < 16) (x0 : 0 ≤ x) (x1 : x < 16) : bits .or .i64 (y * 16) x = 16 * y + x := by
  have h : ∀ a b : Fin 16, bits .or .i64 ((a.val : Int) * 16) (b.val : Int) = 16 * (a.val : Int) + (b.val : Int) := by decide +kernel
  have := h ⟨y.toNat, by omega⟩ ⟨x.toNat, by omega⟩
  simp only [show ((y.toNat : Nat) : Int) = y by omega, show ((x.toNat : Nat) : Int) = x by omega] at this
  exact this
/-- The end of Unhex: what it was given to tell. -/
theorem unhex_cells {w W : World} (R v0 : Value) (er e0 : Value) (h0 : W.heap[w.heap.size]? = some (.cells #[v0] 9 (0, 0))) (h1 : W.heap[w.heap.size + 1]? = some (.cells #[e0] 27 (0, 0))) :
    ((W.setCell ⟨w.heap.size, 0, none⟩ R).setCell ⟨w.heap.size + 1, 0, none⟩ er).heap[w.heap.size]? = some (.cells #[R] 9 (0, 0)) ∧ ((W.setCell ⟨w.heap.size, 0, none⟩ R).setCell ⟨w.heap.size + 1, 0, none⟩ er).heap[w.heap.size + 1]? = some (.cells #[er] 27 (0, 0)) :=
  ⟨(Below.heap_setCell _ _ _ _ (by show w.heap.size ≠ w.heap.size + 1; omega)).trans (setCell_heap h0 0 _), setCell_heap ((Below.heap_setCell _ _ _ _ (by show w.heap.size + 1 ≠ w.heap.size; omega)).trans h1) 0 _⟩
theorem unhex_done {s : ByteArray} {w : World} (W : World) (r : ByteArray) (er : Int) (a : Act) (h0 : W.heap[w.heap.size]? = some (.cells #[.string r] 9 (0, 0))) (h1 : W.heap[w.heap.size + 1]? = some (.cells #[.int .i64 er] 27 (0, 0)))
    (hK : W.heap[w.heap.size + 5]? = some (.deferred (some []))) (hb : Below w.heap.size w W) (h2 : a.tmps[2]? = some (.pointer (some ⟨w.heap.size, 0, none⟩))) (h3 : a.tmps[3]? = some (.pointer (some ⟨w.heap.size + 1, 0, none⟩))) (hd : a.defers = [{ target := .collected (w.heap.size + 5), args := #[] }])
    (hpost : (hexOK s ∧ r = unhexTo s (s.size / 2) ∧ er = 0) ∨ (¬ hexOK s ∧ r = ⟨#[]⟩ ∧ er = 30)) :
    bodyPostM Fence.wide 5 Tryd.prog Tryd.f55 (fun e w' => (∃ r er, e = .returned (.tuple #[.string r, .int .i64 er]) ∧ ((hexOK s ∧ r = unhexTo s (s.size / 2) ∧ er = 0) ∨ (¬ hexOK s ∧ r = ⟨#[]⟩ ∧ er = 30))) ∧ Below w.heap.size w w') .ret a W := by
  obtain ⟨tm, df⟩ := a
  simp only at hd h2 h3
  subst hd
  refine ⟨by simp, .inl ⟨_, _, rfl, run_takeDeferred hK, ?_⟩⟩
  have hp := far_putObj W (w.heap.size + 5) (.deferred none)
  have c0 : (W.putObj (w.heap.size + 5) (.deferred none)).cell? ⟨w.heap.size, 0, none⟩ = some _ := cell_of (hp.heap h0 (by omega)) 0
  have c1 : (W.putObj (w.heap.size + 5) (.deferred none)).cell? ⟨w.heap.size + 1, 0, none⟩ = some _ := cell_of (hp.heap h1 (by omega)) 0
  refine ⟨.tuple #[.string r, .int .i64 er], ?_, ⟨r, er, rfl, hpost⟩, hb.trans (hp.to_below hb.size (by omega))⟩
  simp [results, Tryd.results55, go_sem, h2, h3, c0, c1]
set_option maxRecDepth 100000 in
set_option maxHeartbeats 2000000 in
theorem unhex_any (s : ByteArray) (hs : s.size ≤ 1000000) (w : World) : Calls Tryd.prog 55 #[.string s] w fun e w' => (∃ r er, e = .returned (.tuple #[.string r, .int .i64 er]) ∧ ((hexOK s ∧ r = unhexTo s (s.size / 2) ∧ er = 0) ∨ (¬ hexOK s ∧ r = ⟨#[]⟩ ∧ er = 30))) ∧ Below w.heap.size w w' := by
  obtain ⟨ti, hi, hz0, hz1, hz2⟩ := info_parts info5
  refine callsIn_wide.1 (callsIn_of_wp_marks (n := 5) Tryd.func55 rfl trivial (wpIn_wide.2 ?_))
  simp only [Tryd.ntmps55, List.size_toArray, List.length_cons, List.length_nil, Nat.reduceAdd, Nat.reduceSub, Array.replicate_succ, Array.replicate_zero, List.push_toArray, List.append_toArray, List.nil_append, List.cons_append]
  obtain ⟨W0, hW0⟩ : ∃ W0, ((((w.alloc (.cells #[.string ⟨#[]⟩] 9)).alloc (.cells #[.int .i64 0] 27)).alloc (.cells #[.slice none 0 0] 40)).alloc (.cells #[.int .i64 0] 3)).setCell ⟨w.heap.size + 3, 0, none⟩ (.int .i64 (-1)) = W0 := ⟨_, rfl⟩
  have hf0 : Below w.heap.size w W0 := by
    rw [← hW0]
    exact (((((Below.refl _ _).alloc (Nat.le_refl _) _).alloc (by simp) _).alloc (by simp; omega) _).alloc (by simp; omega) _).setCell (by show w.heap.size ≤ w.heap.size + 3; omega) _
  have hs0 : W0.heap.size = w.heap.size + 4 := by rw [← hW0]; simp [World.setCell]
  have hb0 : W0.heap[w.heap.size]? = some (.cells #[.string ⟨#[]⟩] 9 (0, 0)) := by
    rw [← hW0]
    exact (Below.heap_setCell _ _ _ _ (by show w.heap.size ≠ w.heap.size + 3; omega)).trans (alloc_heap_old _ (alloc_heap_old _ (alloc_heap_old _ (alloc_heap_at _ _ _ rfl))))
  have hb1 : W0.heap[w.heap.size + 1]? = some (.cells #[.int .i64 0] 27 (0, 0)) := by
    rw [← hW0]
    exact (Below.heap_setCell _ _ _ _ (by show w.heap.size + 1 ≠ w.heap.size + 3; omega)).trans (alloc_heap_old _ (alloc_heap_old _ (alloc_heap_at _ _ _ (by simp))))
  have hb2 : W0.heap[w.heap.size + 1 + 1]? = some (.cells #[.slice none 0 0] 40 (0, 0)) := by
    rw [← hW0]
    exact (Below.heap_setCell _ _ _ _ (by show w.heap.size + 2 ≠ w.heap.size + 3; omega)).trans (alloc_heap_old _ (alloc_heap_at _ _ _ (by simp)))
  have hb3 : W0.heap[w.heap.size + 1 + 1 + 1]? = some (.cells #[.int .i64 (-1)] 3 (0, 0)) := by
    rw [← hW0]
    exact setCell_heap (b := w.heap.size + 3) (alloc_heap_at _ _ (w.heap.size + 3) (by simp)) 0 _
  go_wp2_with fail
  refine (values_any s _).mono ?_
  rintro e W1 ⟨rfl, hW1⟩
  rw [hs0]
  have h1 : UI s w 0 W1 := by
    rw [hW1]
    exact ⟨⟨_, alloc_heap_old _ hb2, World.ownsRow_nil _ _ _ _⟩, alloc_heap_old _ hb3, alloc_heap_old _ hb0, alloc_heap_old _ hb1, fun k hk => absurd hk (by omega), hf0.alloc hf0.size _⟩
  have hs1 : W1.heap.size = w.heap.size + 5 := by rw [hW1]; simp; omega
  have hbs : W1.heap[w.heap.size + 4]? = some (.cells #[.string s] 9 (0, 0)) := by rw [hW1]; exact alloc_heap_at _ _ _ hs0.symm
  have H1 := Lib.hid h1
  have HS1 := Lib.hid hs1
  have HBS := Lib.hid hbs
  clear hW1 hb0 hb1 hb2 hb3 hs0 hf0 hW0 h1 hs1 hbs
  go_wp2_with fail
  refine wpIn_wide.1 (range_law3 (n := 5) (X := true) (gf := 90) (lb := #[.pointer (some ⟨w.heap.size + 4, 0, none⟩)]) rfl (fun args wx => enters90 args wx)
    (values_iter s _ W1 HBS.out) (fun _ _ _ _ => trivial) (fun W W' h => h.1.mono (fun k _ e => by omega)) (fun A B C D f1 h f3 => h.fars f1 f3) (fun _ => rfl)
    (UI s w) (fun c W => c = .ret ∧ UX s w W) (fun t W W' h hf => h.vr (HS1.out ▸ hf)) (fun c W W' h hf => ⟨h.1, h.2.vr (HS1.out ▸ hf)⟩) (fun t W W' h hf => h.far (hf.mono (fun k _ e => by have := HS1.out; omega))) (fun c W W' h hf => ⟨h.1, h.2.far (hf.mono (fun k _ e => by have := HS1.out; omega))⟩) (fun h => by cases h) H1.out ?a1 ?assign ?body ?done ?stop)
  case a1 => exact fun t => { tmps := #[Value.string s, undef, Value.pointer (some { block := w.heap.size, off := 0 }), Value.pointer (some { block := w.heap.size + 1, off := 0 }), Value.pointer (some { block := w.heap.size + 1 + 1, off := 0 }), Value.pointer (some { block := w.heap.size + 1 + 1 + 1, off := 0 }), .int .i64 ((vals s s.size 0).getD t 0), Value.string s, .func (.func 90) #[] #[.pointer (some ⟨w.heap.size + 4, 0, none⟩)], .int .i64 ((vals s s.size 0).getD t 0), undef, undef, undef, undef, undef, undef, undef, undef, undef, undef, undef, undef, undef, undef, undef, undef, undef, undef, undef], defers := [] }
  case assign =>
    intro t W K hK
    gi_wp2
    exact hK
  case body =>
    rintro t W ht hlt ⟨⟨v, q1, q2⟩, q3, q4, q5, q6, q7⟩
    obtain ⟨htl, hva⟩ := vals_at s t s.size 0 ht q6
    rw [Nat.zero_add] at htl hva
    have q6' : 0 ≤ valI (byteAt s t) → ∀ k, k < t + 1 → 0 ≤ (vals s s.size 0).getD k 0 := by
      intro h0 k hk
      by_cases e : k = t
      · subst e; rw [hva]; exact h0
      · exact q6 k (by omega)
    have hprev : 0 < t → 0 ≤ valI (byteAt s (t - 1)) := by
      intro h0
      obtain ⟨e1, e2⟩ := vals_at s (t - 1) s.size 0 (by omega) (fun k hk => q6 k (by omega))
      rw [Nat.zero_add] at e2
      rw [← e2]
      exact q6 (t - 1) (by omega)
    rw [hva]
    have hsz := HS1.out
    rw [hsz] at hlt ⊢
    have HQ6 := Lib.hid q6'
    have HPR := Lib.hid hprev
    have c0 : W.cell? ⟨w.heap.size + 1 + 1 + 1, 0, none⟩ = some _ := cell_of q3 0
    have c1 : W.cell? ⟨w.heap.size + 1 + 1, 0, none⟩ = some v := cell_of q1 0
    have c2 : W.cell? ⟨w.heap.size, 0, none⟩ = some _ := cell_of q4 0
    have c3 : W.cell? ⟨w.heap.size + 1, 0, none⟩ = some _ := cell_of q5 0
    have f0 : W.frozen? ⟨w.heap.size + 1 + 1 + 1, 0, none⟩ = false := frozen_of q3 0
    have f1 : W.frozen? ⟨w.heap.size + 1 + 1, 0, none⟩ = false := frozen_of q1 0
    have f2 : W.frozen? ⟨w.heap.size, 0, none⟩ = false := frozen_of q4 0
    have f3 : W.frozen? ⟨w.heap.size + 1, 0, none⟩ = false := frozen_of q5 0
    have hvl := valI_lt (byteAt s t)
    have hvg := valI_ge (byteAt s t)
    have Q1 := Lib.hid q1
    have Q2 := Lib.hid q2
    have Q3 := Lib.hid q3
    have Q4 := Lib.hid q4
    have Q5 := Lib.hid q5
    have Q7 := Lib.hid q7
    clear q1 q2 q3 q4 q5 q6 q6' q7 hprev hva
    by_cases hneg : valI (byteAt s t) < 0
    · have hno : ¬ hexOK s := fun h => by have := h.2 t htl; omega
      clear c0 c1 f0 f1
      generalize valI (byteAt s t) = x at hvl hvg hneg HQ6 ⊢
      gi_wp2_with fail
      have hf : Far (fun k => k = w.heap.size ∨ k = w.heap.size + 1) W ((W.setCell ⟨w.heap.size, 0, none⟩ (.string ⟨#[]⟩)).setCell ⟨w.heap.size + 1, 0, none⟩ (.int .i64 30)) := ((Far.refl _ W).setCell (fun _ => .inl rfl) _).setCell (fun _ => .inr rfl) _
      refine ⟨⟨rfl, hno, ?_, ?_, ?_⟩, hf.mono (by intro k _ h; omega), .of_far hf (by intro k h1 h2; omega)⟩
      · exact (Below.heap_setCell _ _ _ _ (by show w.heap.size ≠ w.heap.size + 1; omega)).trans (setCell_heap Q4.out 0 _)
      · exact setCell_heap ((Below.heap_setCell _ _ _ _ (by show w.heap.size + 1 ≠ w.heap.size; omega)).trans Q5.out) 0 _
      · exact (Q7.out.setCell (Nat.le_refl _) _).setCell (by show w.heap.size ≤ w.heap.size + 1; omega) _
    · by_cases hev : t % 2 = 0
      · rw [if_pos hev] at c0
        obtain ⟨x, hx⟩ : ∃ x, valI (byteAt s t) = x := ⟨_, rfl⟩
        have HX := Lib.hid hx
        rw [hx] at hvl hvg hneg HQ6 ⊢
        clear hx
        have x0 : 0 ≤ x := by omega
        clear c1 c2 c3 f1 f2 f3 hneg
        gi_wp2_with fail
        have hf : Far (fun k => k = w.heap.size + 3) W (W.setCell ⟨w.heap.size + 1 + 1 + 1, 0, none⟩ (.int .i64 x)) := (Far.refl (fun k => k = w.heap.size + 3) W).setCell (fun _ => rfl) _
        have et : (t + 1) / 2 = t / 2 := by omega
        refine ⟨⟨⟨v, hf.heap Q1.out (by omega), ?_⟩, ?_, hf.heap Q4.out (by omega), hf.heap Q5.out (by omega), HQ6.out x0, Q7.out.setCell (by show w.heap.size ≤ w.heap.size + 3; omega) _⟩, hf.mono (by intro k _ h; omega), .of_far hf (by intro k h1 h2; omega)⟩
        · rw [et]
          exact ownsRow_far Q2.out hf (by intro k h1 _ h2; omega)
        · have := setCell_heap Q3.out 0 (.int .i64 x)
          rw [if_neg (show ¬ (t + 1) % 2 = 0 by omega), Nat.add_sub_cancel, HX.out]
          exact this
      · rw [if_neg hev] at c0
        obtain ⟨x, hx⟩ : ∃ x, valI (byteAt s t) = x := ⟨_, rfl⟩
        obtain ⟨y, hy⟩ : ∃ y, valI (byteAt s (t - 1)) = y := ⟨_, rfl⟩
        have HX := Lib.hid hx
        have HY := Lib.hid hy
        have hyl := valI_lt (byteAt s (t - 1))
        have hyg := HPR.out (by omega)
        rw [hy] at c0 hyl hyg
        rw [hx] at hvl hvg hneg HQ6 ⊢
        clear hx hy
        have x0 : 0 ≤ x := by omega
        clear c2 c3 f2 f3 hneg
        have hz : bits BinOp.or IntKind.i64 (y * 16) x % 256 = ((pairAt s (t / 2)).toNat : Int) := by
          have e1 : 2 * (t / 2) = t - 1 := by omega
          have e2 : 2 * (t / 2) + 1 = t := by omega
          unfold pairAt
          rw [e2, e1, HX.out, HY.out, join_i64 y x hyg hyl x0 hvl, UInt8.toNat_ofNat']
          omega
        have HZ := Lib.hid hz
        clear hz
        have hn1 : t / 2 + 1 ≤ maxLen := by unfold maxLen; omega
        have hn2 : (t / 2 + 1) * 1 ≤ 140737488355328 := by omega
        have hbs : w.heap.size + 7 ≤ W.heap.size + 1 := by omega
        gi_wp2_with (gi_at_builtin; refine wpListIn_append_own _ rfl (.tmp 10) (.tmp 16) 40 rfl (w.heap.size + 7) 5 ti (.int .u8 0) 1 1 Tryd.underlying40 hi hz0 hz1 hz2 rfl (by decide) v (t / 2) _ rfl (Q2.out.alloc _) ⟨W.heap.size, 0, none⟩ 1 1 [.int .u8 (bits BinOp.or IntKind.i64 (y * 16) x % 256)] rfl rfl (cell_one_new _ _ _) (by simp [Value.oneCell']) hn1 hn2 (by simpa using hbs) ?_; intro v' w2 hown' hgrow _; obtain ⟨g, cap, rfl, hg1, hg2⟩ := ownsRow_form hown'; have hrl := Q2.out.lt; have hf2 : Far (fun k => w.heap.size + 7 ≤ k) W w2 := ((Far.refl _ W).alloc _).grown hgrow (fun k e _ => (hrl k e).1); have hb2 : w2.heap[w.heap.size + 1 + 1]? = some (.cells #[v] 40 (0, 0)) := hf2.heap Q1.out (by omega); have hb3 := hf2.heap Q3.out (by omega); have hc1 : w2.cell? ⟨w.heap.size + 1 + 1, 0, none⟩ = some v := cell_of hb2 0; have hf1 : w2.frozen? ⟨w.heap.size + 1 + 1, 0, none⟩ = false := frozen_of hb2 0; have hc3 : w2.cell? ⟨w.heap.size + 1 + 1 + 1, 0, none⟩ = some _ := cell_of hb3 0; have hf3 : w2.frozen? ⟨w.heap.size + 1 + 1 + 1, 0, none⟩ = false := frozen_of hb3 0; have Hb2 := Lib.hid hb2; have Hb3 := Lib.hid hb3; have Hown := Lib.hid hown'; have Hgr := Lib.hid hgrow; clear hb2 hb3 hown' hgrow hrl)
        have et : (t + 1) / 2 = t / 2 + 1 := by omega
        have hf3 : Far (fun k => k = w.heap.size + 2 ∨ k = w.heap.size + 3) w2 ((w2.setCell ⟨w.heap.size + 1 + 1, 0, none⟩ (.slice (some ⟨g, 0, none⟩) (t / 2 + 1) cap)).setCell ⟨w.heap.size + 1 + 1 + 1, 0, none⟩ (.int .i64 (-1))) := ((Far.refl _ w2).setCell (fun _ => .inl rfl) _).setCell (fun _ => .inr rfl) _
        have hf4 := (hf2.mono (D' := fun k => k ≠ w.heap.size + 5 ∧ k ≠ w.heap.size + 5 + 1) (by intro k _ h; omega)).trans (hf3.mono (by intro k _ h; omega))
        refine ⟨⟨⟨.slice (some ⟨g, 0, none⟩) (t / 2 + 1) cap, ?_, ?_⟩, ?_, ?_, ?_, HQ6.out x0, ?_⟩, hf4, (VS.of_grown Q2.out Hgr.out).andThen (.of_far hf3 (by intro k h1 h2; omega))⟩
        · exact (Below.heap_setCell _ _ _ _ (by show w.heap.size + 2 ≠ w.heap.size + 3; omega)).trans (setCell_heap Hb2.out 0 _)
        · rw [et, unhex_data, ← HZ.out]
          exact ownsRow_far Hown.out hf3 (by intro k h1 _ h2; omega)
        · have := setCell_heap ((Below.heap_setCell w2 ⟨w.heap.size + 1 + 1, 0, none⟩ (.slice (some ⟨g, 0, none⟩) (t / 2 + 1) cap) (w.heap.size + 1 + 1 + 1) (by show w.heap.size + 3 ≠ w.heap.size + 2; omega)).trans Hb3.out) 0 (.int .i64 (-1))
          rw [if_pos (show (t + 1) % 2 = 0 by omega)]
          exact this
        · exact hf3.heap (hf2.heap Q4.out (by omega)) (by omega)
        · exact hf3.heap (hf2.heap Q5.out (by omega)) (by omega)
        · exact (Q7.out.trans (hf2.to_below Q7.out.size (by intro i h1 h2; omega))).trans (hf3.to_below (Nat.le_trans Q7.out.size hf2.size) (by intro i h1 h2; omega))
  case done =>
    rintro W ⟨⟨v, q1, q2⟩, q3, q4, q5, q6, q7⟩ _ hK
    have hn := vals_length s s.size 0 (by omega) (Nat.zero_le _) q6
    rw [Nat.sub_zero] at hn
    rw [hn] at q2 q3
    have hall : ∀ i, i < s.size → 0 ≤ valI (byteAt s i) := by
      intro i hi
      obtain ⟨_, e2⟩ := vals_at s i s.size 0 (by omega) (fun k hk => q6 k (by omega))
      rw [Nat.zero_add] at e2
      rw [← e2]
      exact q6 i (by omega)
    have c0 : W.cell? ⟨w.heap.size + 1 + 1 + 1, 0, none⟩ = some _ := cell_of q3 0
    have c1 : W.cell? ⟨w.heap.size + 1 + 1, 0, none⟩ = some v := cell_of q1 0
    have c2 : W.cell? ⟨w.heap.size, 0, none⟩ = some _ := cell_of q4 0
    have c3 : W.cell? ⟨w.heap.size + 1, 0, none⟩ = some _ := cell_of q5 0
    have f2 : W.frozen? ⟨w.heap.size, 0, none⟩ = false := frozen_of q4 0
    have f3 : W.frozen? ⟨w.heap.size + 1, 0, none⟩ = false := frozen_of q5 0
    have hsz := HS1.out
    rw [hsz] at hK ⊢
    have HK := Lib.hid hK
    have Q2 := Lib.hid q2
    have Q4 := Lib.hid q4
    have Q5 := Lib.hid q5
    have Q7 := Lib.hid q7
    have HALL := Lib.hid hall
    clear q1 q2 q3 q4 q5 q6 q7 hK hall hn
    by_cases hev : s.size % 2 = 0
    · rw [if_pos hev] at c0
      have hcv := conv_owned Q2.out (by simp [unhexTo])
      have he : (⟨(unhexTo s (s.size / 2)).data.toList.toArray⟩ : ByteArray) = unhexTo s (s.size / 2) := by simp
      rw [he] at hcv
      have hok := Lib.hid (show hexOK s from ⟨hev, HALL.out⟩)
      obtain ⟨R, hR⟩ : ∃ R, unhexTo s (s.size / 2) = R := ⟨_, rfl⟩
      rw [hR] at hcv
      have HR := Lib.hid hR
      clear hR
      go_wp2_with fail
      obtain ⟨x0, x1⟩ := unhex_cells (.string R) _ (.int .i64 0) _ Q4.out Q5.out
      exact unhex_done _ R 0 _ x0 x1 ((Below.heap_setCell _ _ _ _ (by show w.heap.size + 5 ≠ w.heap.size + 1; omega)).trans ((Below.heap_setCell _ _ _ _ (by show w.heap.size + 5 ≠ w.heap.size; omega)).trans HK.out)) ((Q7.out.setCell (Nat.le_refl _) _).setCell (by show w.heap.size ≤ w.heap.size + 1; omega) _) rfl rfl rfl (.inl ⟨hok.out, HR.out.symm, rfl⟩)
    · rw [if_neg hev] at c0
      have hno : ¬ hexOK s := fun h => hev h.1
      have hpos := HALL.out (s.size - 1) (by omega)
      generalize valI (byteAt s (s.size - 1)) = y at c0 hpos
      have HNO := Lib.hid hno
      clear hno
      go_wp2_with fail
      obtain ⟨x0, x1⟩ := unhex_cells (.string ⟨#[]⟩) _ (.int .i64 30) _ Q4.out Q5.out
      exact unhex_done _ ⟨#[]⟩ 30 _ x0 x1 ((Below.heap_setCell _ _ _ _ (by show w.heap.size + 5 ≠ w.heap.size + 1; omega)).trans ((Below.heap_setCell _ _ _ _ (by show w.heap.size + 5 ≠ w.heap.size; omega)).trans HK.out)) ((Q7.out.setCell (Nat.le_refl _) _).setCell (by show w.heap.size ≤ w.heap.size + 1; omega) _) rfl rfl rfl (.inr ⟨HNO.out, rfl, rfl⟩)
  case stop =>
    rintro c W ⟨rfl, q0, q4, q5, q7⟩ hK
    have c2 : W.cell? ⟨w.heap.size, 0, none⟩ = some _ := cell_of q4 0
    have c3 : W.cell? ⟨w.heap.size + 1, 0, none⟩ = some _ := cell_of q5 0
    have hsz := HS1.out
    rw [hsz] at hK ⊢
    have HK := Lib.hid hK
    have Q4 := Lib.hid q4
    have Q5 := Lib.hid q5
    have Q7 := Lib.hid q7
    clear q4 q5 q7 hK
    refine wpIn_wide.2 ?_
    go_wp2_with fail
    exact unhex_done W ⟨#[]⟩ 30 _ Q4.out Q5.out HK.out Q7.out rfl rfl rfl (.inr ⟨q0, rfl, rfl⟩)
end Go.Proofs.YtfafidholldjlaaDoor
