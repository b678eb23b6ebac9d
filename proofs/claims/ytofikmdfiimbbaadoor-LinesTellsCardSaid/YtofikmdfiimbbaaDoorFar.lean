/- A frame for walks that write: only the blocks of a set D, and new ones, have turned. Facts on a block that is known whole. -/
import Derived.WalkKit
import Derived.WalkSmall
set_option linter.unusedVariables false
set_option linter.unusedSimpArgs false
namespace Go.Proofs.YtofikmdfiimbbaaDoor
open Go.RowKit
structure Far (D : Nat → Prop) (w w' : World) : Prop where
  os : w'.os = w.os
  tape : w'.tape = w.tape
  output : w'.output = w.output
  size : w.heap.size ≤ w'.heap.size
  block : ∀ k, k < w.heap.size → ¬ D k → w'.heap[k]? = w.heap[k]?
def NoneD : Nat → Prop := fun _ => False
theorem Far.refl (D : Nat → Prop) (w : World) : Far D w w := ⟨rfl, rfl, rfl, Nat.le_refl _, fun _ _ _ => rfl⟩
/-- What came behind may have turned what is new to the first world, too. -/
theorem Far.step {D D' : Nat → Prop} {a b c : World} (h : Far D a b) (k : Far D' b c) (hd : ∀ i, i < a.heap.size → D' i → D i) : Far D a c :=
  ⟨k.os.trans h.os, k.tape.trans h.tape, k.output.trans h.output, Nat.le_trans h.size k.size,
   fun i hi hn => (k.block i (Nat.lt_of_lt_of_le hi h.size) (fun e => hn (hd i hi e))).trans (h.block i hi hn)⟩
theorem Far.trans {D : Nat → Prop} {a b c : World} (h : Far D a b) (k : Far D b c) : Far D a c := h.step k fun _ _ e => e
theorem Far.mono {D D' : Nat → Prop} {a b : World} (h : Far D a b) (hd : ∀ i, i < a.heap.size → D i → D' i) : Far D' a b := ⟨h.os, h.tape, h.output, h.size, fun i hi hn => h.block i hi (fun e => hn (hd i hi e))⟩
theorem Far.alloc {D : Nat → Prop} {a b : World} (h : Far D a b) (o : Obj) : Far D a (b.alloc o) :=
  h.trans ⟨rfl, rfl, rfl, by simp, fun k hk _ => Below.heap_alloc _ _ _ hk⟩
theorem Far.drew {D : Nat → Prop} {a b : World} (h : Far D a b) : Far D a b.drew := ⟨h.os, h.tape, h.output, h.size, h.block⟩
theorem Far.drewN {D : Nat → Prop} {a b : World} (h : Far D a b) (n : Nat) : Far D a (b.drewN n) := h.trans ⟨rfl, rfl, rfl, Nat.le_refl _, fun _ _ _ => rfl⟩
theorem Far.setCell {D : Nat → Prop} {a b : World} (h : Far D a b) {p : Addr} (hp : p.block < a.heap.size → D p.block) (u : Value) : Far D a (b.setCell p u) :=
  h.step (D' := (· = p.block)) ⟨rfl, rfl, rfl, by simp [World.setCell], fun k _ hn => Below.heap_setCell _ _ _ _ hn⟩ (fun i hi e => by subst e; exact hp hi)
theorem Far.setRow {D : Nat → Prop} {a b : World} (h : Far D a b) {g : Nat} (hp : g < a.heap.size → D g) (cs : Array Value) : Far D a (b.setRow g cs) :=
  h.step (D' := (· = g)) ⟨rfl, rfl, rfl, by simp, fun k _ hn => setRow_other _ _ _ _ hn⟩ (fun i hi e => by subst e; exact hp hi)
theorem Far.below {D : Nat → Prop} {a b c : World} (h : Far D a b) (k : Below b.heap.size b c) : Far D a c :=
  h.step (D' := NoneD) ⟨k.os, k.tape, k.output, k.size, fun i hi _ => k.block i hi⟩ (fun _ _ e => e.elim)
theorem Far.of_below {a b : World} (k : Below a.heap.size a b) (D : Nat → Prop) : Far D a b := (Far.refl D a).below k
theorem Far.to_below {a b : World} {B : Nat} {D : Nat → Prop} (h : Far D a b) (hB : B ≤ a.heap.size) (hD : ∀ i, i < B → ¬ D i) : Below B a b :=
  ⟨h.os, h.tape, h.output, h.size, fun i hi => h.block i (Nat.lt_of_lt_of_le hi hB) (hD i hi)⟩
/-- Behind a law that ends in 'grownBy'. -/
theorem Far.grown {D : Nat → Prop} {a b c : World} {row : Option Nat} (h : Far D a b) (hg : b.grownBy c row) (hr : ∀ k, row = some k → k < a.heap.size → D k) : Far D a c :=
  h.step (D' := fun i => row = some i) ⟨hg.os, hg.tape, hg.output, hg.size, fun i hi hn => hg.block i hi (fun e => hn e.symm)⟩ (fun i hi e => hr i e hi)
theorem Far.cell {D : Nat → Prop} {a b : World} (h : Far D a b) {p : Addr} (hp : p.block < a.heap.size) (hn : ¬ D p.block) : b.cell? p = a.cell? p := World.cell?_of_block (w := a) (h.block p.block hp hn)
theorem Far.frozen {D : Nat → Prop} {a b : World} (h : Far D a b) {p : Addr} (hp : p.block < a.heap.size) (hn : ¬ D p.block) : b.frozen? p = a.frozen? p := World.frozen?_of_block (w := a) (h.block p.block hp hn)
/-! A block that is known whole. -/
theorem lt_of_heap {w : World} {b : Nat} {o : Obj} (h : w.heap[b]? = some o) : b < w.heap.size := (Array.getElem?_eq_some_iff.1 h).1
theorem cell_of {w : World} {b : Nat} {c : Array Value} {T : TypeId} {fr : Nat × Nat} (h : w.heap[b]? = some (.cells c T fr)) (j : Nat) : w.cell? ⟨b, j, none⟩ = c[j]? := by simp [World.cell?, h]
theorem frozen_of {w : World} {b : Nat} {c : Array Value} {T : TypeId} (h : w.heap[b]? = some (.cells c T (0, 0))) (j : Nat) : w.frozen? ⟨b, j, none⟩ = false := by simp [World.frozen?, h]
theorem setCell_heap {w : World} {b : Nat} {c : Array Value} {T : TypeId} {fr : Nat × Nat} (h : w.heap[b]? = some (.cells c T fr)) (j : Nat) (v : Value) :
    (w.setCell ⟨b, j, none⟩ v).heap[b]? = some (.cells (c.setIfInBounds j v) T fr) := by
  rw [setCell_eq_setRow w b j c T fr v h]; exact setRow_heap w b c _ T fr h
theorem alloc_heap (w : World) (o : Obj) : (w.alloc o).heap[w.heap.size]? = some o := by
  show (w.heap.push o)[w.heap.size]? = some o
  simp
theorem alloc_heap_at (w : World) (o : Obj) (n : Nat) (hn : n = w.heap.size) : (w.alloc o).heap[n]? = some o := by subst hn; exact alloc_heap w o
theorem alloc_heap_old {w : World} {b : Nat} {x : Obj} (o : Obj) (h : w.heap[b]? = some x) : (w.alloc o).heap[b]? = some x := (Below.heap_alloc w o b (lt_of_heap h)).trans h
theorem Far.heap {D : Nat → Prop} {a b : World} (h : Far D a b) {k : Nat} {x : Obj} (hk : a.heap[k]? = some x) (hn : ¬ D k) : b.heap[k]? = some x := (h.block k (lt_of_heap hk) hn).trans hk
theorem new_at {w : World} {c : Array Value} {t : TypeId} {n i : Nat} {v : Value} (hn : n = w.heap.size) (hv : c[i]? = some v) : (w.alloc (.cells c t)).cell? ⟨n, i, none⟩ = some v := by
  subst hn
  exact (World.cell?_alloc_new _ _ _ _).trans hv
theorem new_past {w : World} {o : Obj} {n i : Nat} {v : Value} (hn : n < w.heap.size) (h : w.cell? ⟨n, i, none⟩ = some v) : (w.alloc o).cell? ⟨n, i, none⟩ = some v :=
  (World.cell?_alloc_lt w o ⟨n, i, none⟩ hn).trans h
theorem frozen_past {w : World} {o : Obj} {n i : Nat} (hn : n < w.heap.size) (h : w.frozen? ⟨n, i, none⟩ = false) : (w.alloc o).frozen? ⟨n, i, none⟩ = false :=
  (World.frozen?_of_block (w := w) (Below.heap_alloc w o n hn)).trans h
theorem cell_other {w : World} {b i j : Nat} {u v : Value} (hn : i ≠ j) (h : w.cell? ⟨b, i, none⟩ = some v) : (w.setCell ⟨b, j, none⟩ u).cell? ⟨b, i, none⟩ = some v := by
  rw [World.cell?_setCell_other]
  · exact h
  · intro e; cases e; exact hn rfl
theorem ownsRow_far {D : Nat → Prop} {w w' : World} {base : Nat} {e : TypeId} {size : Nat} {v : Value} {n : Nat} {xs : List Value} (h : w.ownsRow base e size v n xs) (hf : Far D w w') (hD : ∀ k, base ≤ k → k < w.heap.size → ¬ D k) : w'.ownsRow base e size v n xs := by
  refine ⟨h.1, ?_⟩
  rcases h.2 with hn | ⟨g, cap, cur, rfl, hb, hgg, rest⟩
  · exact .inl hn
  · exact .inr ⟨g, cap, cur, rfl, hb, hf.heap hgg (hD g hb (lt_of_heap hgg)), rest⟩
theorem ownsRow_form {w : World} {base : Nat} {e : TypeId} {size : Nat} {v : Value} {n : Nat} {xs : List Value} (h : w.ownsRow base e size v (n + 1) xs) : ∃ g cap, v = .slice (some ⟨g, 0, none⟩) (n + 1) cap ∧ base ≤ g ∧ g < w.heap.size := by
  rcases h.2 with ⟨_, h0⟩ | ⟨g, cap, cur, rfl, hb, hgg, _⟩
  · omega
  · exact ⟨g, cap, rfl, hb, lt_of_heap hgg⟩
theorem ownsRow_cell {w : World} {base : Nat} {e : TypeId} {g n cap : Nat} {xs : List Value} (h : w.ownsRow base e 1 (.slice (some ⟨g, 0, none⟩) n cap) n xs) (j : Nat) (u : Value) (hj : xs[j]? = some u) : w.cell? ⟨g, j, none⟩ = some u := by
  have := h.cells (g := g) rfl j u hj
  have hadd : (⟨g, 0, none⟩ : Addr).add j = ⟨g, j, none⟩ := by unfold Addr.add; split <;> simp_all
  rwa [hadd] at this
/-- Two stores into one cell are the second. -/
theorem setCell_twice (w : World) (a : Addr) (v u : Value) : (w.setCell a v).setCell a u = w.setCell a u := by
  have h : ∀ (H : Array Obj) (b : Nat) (f g : Obj → Obj), (∀ o, g (f o) = g o) → (H.modify b f).modify b g = H.modify b g := by
    intro H b f g hfg
    apply Array.ext
    · simp
    · intro i h1 h2
      simp only [Array.getElem_modify]
      by_cases e : b = i
      · simp [e, hfg]
      · simp [e]
  unfold World.setCell
  simp only
  rw [h]
  intro o
  cases o <;> simp
  split <;> simp
end Go.Proofs.YtofikmdfiimbbaaDoor
