/- What the rows lay, and an argument that is a state. -/
import Derived.Test.YtfafidholldjlaaDoorZB
import Derived.Test.YtfafidholldjlaaDoorZA
import Derived.Test.YtfafidholldjlaaDoorCards
import Derived.Test.YtfafidholldjlaaDoorTie
import Derived.WalkKit
import Derived.ProofKit
import Derived.OpenShut
import Derived.Deep.DeepHandedRow
import Derived.Deep.DeepWitnessRowRef
import Derived.Lib.LaidTab
import Derived.Stop.LaidTwo
import Derived.JoinedCond
set_option linter.unusedVariables false
set_option linter.unusedSimpArgs false
namespace Go.Proofs.YtfafidholldjlaaDoor
open Go.ChangeShapes Go.WideShapes Go.ChangeAt Go.RowKit
theorem len8 {α : Type} {l : List α} (h : l.length = 8) : ∃ a b c d e f g i, l = [a, b, c, d, e, f, g, i] := by
  match l, h with
  | [a, b, c, d, e, f, g, i], _ => exact ⟨a, b, c, d, e, f, g, i, rfl⟩
theorem cells23 : Tryd.prog.cellsOf 23 = 8 := by kernel_rfl
set_option maxRecDepth 20000
section
variable {H : Type} {enc : TypeId × Value → H} {W : World} {base : Nat} {sp : Nat → Bool} {held : Bool}
/-- A state that came in, opened. -/
theorem open_state {r : Reach} {b0 : Nat} {v : Value} {d : DataW H} {p : List MemPlace} (hv : Value.okWide Tryd.prog W r b0 23 v) (hd : DataW.Trod enc Tryd.prog W base sp held 23 v d p) :
    ∃ s0 s1 s2 s3 s4 s5 s6 s7 : Int, v = .agg #[.int .i64 s0, .int .i64 s1, .int .i64 s2, .int .i64 s3, .int .i64 s4, .int .i64 s5, .int .i64 s6, .int .i64 s7] ∧ d = .agg [.lit (.int .i64 s0), .lit (.int .i64 s1), .lit (.int .i64 s2), .lit (.int .i64 s3), .lit (.int .i64 s4), .lit (.int .i64 s5), .lit (.int .i64 s6), .lit (.int .i64 s7)] ∧ p = [] ∧ (Lit.int .i64 s0).wf = true ∧ (Lit.int .i64 s1).wf = true ∧ (Lit.int .i64 s2).wf = true ∧ (Lit.int .i64 s3).wf = true ∧ (Lit.int .i64 s4).wf = true ∧ (Lit.int .i64 s5).wf = true ∧ (Lit.int .i64 s6).wf = true ∧ (Lit.int .i64 s7).wf = true := by
  simp only [Value.okWide, Tryd.underlying23] at hv
  obtain ⟨cs, rfl, hsz, _⟩ := hv
  rw [cells23] at hsz
  obtain ⟨fuel, hf⟩ := hd
  obtain ⟨xs, m, rfl, hx, _, hl, hi⟩ := DataW.trod_array Tryd.underlying23 hf
  obtain ⟨l⟩ := cs
  simp only [List.size_toArray] at hsz
  obtain ⟨c0, c1, c2, c3, c4, c5, c6, c7, rfl⟩ := len8 hsz
  obtain ⟨x0, x1, x2, x3, x4, x5, x6, x7, rfl⟩ := len8 hl
  clear hl hsz
  have k0 := hi 0 (by decide)
  simp only [cells3, Value.cells, List.getElem?_cons_zero, List.getElem?_cons_succ, Nat.mul_one, List.drop, List.take, Nat.zero_mul, Nat.one_mul] at k0
  obtain ⟨a0, e0, rfl, w0⟩ := DataW.trod_int Tryd.underlying3 k0
  obtain rfl := (List.cons.inj e0).1
  have k1 := hi 1 (by decide)
  simp only [cells3, Value.cells, List.getElem?_cons_zero, List.getElem?_cons_succ, Nat.mul_one, List.drop, List.take, Nat.zero_mul, Nat.one_mul] at k1
  obtain ⟨a1, e1, rfl, w1⟩ := DataW.trod_int Tryd.underlying3 k1
  obtain rfl := (List.cons.inj e1).1
  have k2 := hi 2 (by decide)
  simp only [cells3, Value.cells, List.getElem?_cons_zero, List.getElem?_cons_succ, Nat.mul_one, List.drop, List.take, Nat.zero_mul, Nat.one_mul] at k2
  obtain ⟨a2, e2, rfl, w2⟩ := DataW.trod_int Tryd.underlying3 k2
  obtain rfl := (List.cons.inj e2).1
  have k3 := hi 3 (by decide)
  simp only [cells3, Value.cells, List.getElem?_cons_zero, List.getElem?_cons_succ, Nat.mul_one, List.drop, List.take, Nat.zero_mul, Nat.one_mul] at k3
  obtain ⟨a3, e3, rfl, w3⟩ := DataW.trod_int Tryd.underlying3 k3
  obtain rfl := (List.cons.inj e3).1
  have k4 := hi 4 (by decide)
  simp only [cells3, Value.cells, List.getElem?_cons_zero, List.getElem?_cons_succ, Nat.mul_one, List.drop, List.take, Nat.zero_mul, Nat.one_mul] at k4
  obtain ⟨a4, e4, rfl, w4⟩ := DataW.trod_int Tryd.underlying3 k4
  obtain rfl := (List.cons.inj e4).1
  have k5 := hi 5 (by decide)
  simp only [cells3, Value.cells, List.getElem?_cons_zero, List.getElem?_cons_succ, Nat.mul_one, List.drop, List.take, Nat.zero_mul, Nat.one_mul] at k5
  obtain ⟨a5, e5, rfl, w5⟩ := DataW.trod_int Tryd.underlying3 k5
  obtain rfl := (List.cons.inj e5).1
  have k6 := hi 6 (by decide)
  simp only [cells3, Value.cells, List.getElem?_cons_zero, List.getElem?_cons_succ, Nat.mul_one, List.drop, List.take, Nat.zero_mul, Nat.one_mul] at k6
  obtain ⟨a6, e6, rfl, w6⟩ := DataW.trod_int Tryd.underlying3 k6
  obtain rfl := (List.cons.inj e6).1
  have k7 := hi 7 (by decide)
  simp only [cells3, Value.cells, List.getElem?_cons_zero, List.getElem?_cons_succ, Nat.mul_one, List.drop, List.take, Nat.zero_mul, Nat.one_mul] at k7
  obtain ⟨a7, e7, rfl, w7⟩ := DataW.trod_int Tryd.underlying3 k7
  obtain rfl := (List.cons.inj e7).1
  simp only [Prod.mk.injEq, List.map_cons, List.map_nil, List.flatMap_cons, List.flatMap_nil, List.append_nil] at hx
  exact ⟨a0, a1, a2, a3, a4, a5, a6, a7, rfl, hx.1, hx.2, w0, w1, w2, w3, w4, w5, w6, w7⟩
/-- And shut. -/
theorem shut_state (s0 s1 s2 s3 s4 s5 s6 s7 : Int) (h : (Lit.int .i64 s0).wf = true ∧ (Lit.int .i64 s1).wf = true ∧ (Lit.int .i64 s2).wf = true ∧ (Lit.int .i64 s3).wf = true ∧ (Lit.int .i64 s4).wf = true ∧ (Lit.int .i64 s5).wf = true ∧ (Lit.int .i64 s6).wf = true ∧ (Lit.int .i64 s7).wf = true) : DataW.Trod enc Tryd.prog W base sp held 23 (.agg #[.int .i64 s0, .int .i64 s1, .int .i64 s2, .int .i64 s3, .int .i64 s4, .int .i64 s5, .int .i64 s6, .int .i64 s7]) (.agg [.lit (.int .i64 s0), .lit (.int .i64 s1), .lit (.int .i64 s2), .lit (.int .i64 s3), .lit (.int .i64 s4), .lit (.int .i64 s5), .lit (.int .i64 s6), .lit (.int .i64 s7)]) [] := by
  obtain ⟨h0, h1, h2, h3, h4, h5, h6, h7⟩ := h
  refine ⟨2, ?_⟩
  rw [DataW.trod_step]
  unfold DataW.trodStep
  simp only [Tryd.underlying23, Value.cells]
  rw [if_pos (by rw [cells23]; rfl)]
  have t0 := trod_int_mk (enc := enc) (P := Tryd.prog) (w := W) (base := base) (spare := sp) (held := held) (t := 3) (k := .i64) (n := s0) 0 Tryd.underlying3 h0
  have t1 := trod_int_mk (enc := enc) (P := Tryd.prog) (w := W) (base := base) (spare := sp) (held := held) (t := 3) (k := .i64) (n := s1) 0 Tryd.underlying3 h1
  have t2 := trod_int_mk (enc := enc) (P := Tryd.prog) (w := W) (base := base) (spare := sp) (held := held) (t := 3) (k := .i64) (n := s2) 0 Tryd.underlying3 h2
  have t3 := trod_int_mk (enc := enc) (P := Tryd.prog) (w := W) (base := base) (spare := sp) (held := held) (t := 3) (k := .i64) (n := s3) 0 Tryd.underlying3 h3
  have t4 := trod_int_mk (enc := enc) (P := Tryd.prog) (w := W) (base := base) (spare := sp) (held := held) (t := 3) (k := .i64) (n := s4) 0 Tryd.underlying3 h4
  have t5 := trod_int_mk (enc := enc) (P := Tryd.prog) (w := W) (base := base) (spare := sp) (held := held) (t := 3) (k := .i64) (n := s5) 0 Tryd.underlying3 h5
  have t6 := trod_int_mk (enc := enc) (P := Tryd.prog) (w := W) (base := base) (spare := sp) (held := held) (t := 3) (k := .i64) (n := s6) 0 Tryd.underlying3 h6
  have t7 := trod_int_mk (enc := enc) (P := Tryd.prog) (w := W) (base := base) (spare := sp) (held := held) (t := 3) (k := .i64) (n := s7) 0 Tryd.underlying3 h7
  rw [show List.range 8 = [0, 1, 2, 3, 4, 5, 6, 7] from rfl, cells3]
  simp only [Nat.zero_add] at t0 t1 t2 t3 t4 t5 t6 t7
  simp [List.mapM_cons, t0, t1, t2, t3, t4, t5, t6, t7]
end
/-- A state of words. -/
theorem words_st {s0 s1 s2 s3 s4 s5 s6 s7 : Int} (h : Words8 s0 s1 s2 s3 s4 s5 s6 s7) : ∃ s : Sha.St, s.ok ∧ s0 = (s.a : Int) ∧ s1 = (s.b : Int) ∧ s2 = (s.c : Int) ∧ s3 = (s.d : Int) ∧ s4 = (s.e : Int) ∧ s5 = (s.f : Int) ∧ s6 = (s.g : Int) ∧ s7 = (s.h : Int) := by
  obtain ⟨⟨l0, u0⟩, ⟨l1, u1⟩, ⟨l2, u2⟩, ⟨l3, u3⟩, ⟨l4, u4⟩, ⟨l5, u5⟩, ⟨l6, u6⟩, ⟨l7, u7⟩⟩ := h
  exact ⟨⟨s0.toNat, s1.toNat, s2.toNat, s3.toNat, s4.toNat, s5.toNat, s6.toNat, s7.toNat⟩, ⟨by show s0.toNat < 4294967296; omega, by show s1.toNat < 4294967296; omega, by show s2.toNat < 4294967296; omega, by show s3.toNat < 4294967296; omega, by show s4.toNat < 4294967296; omega, by show s5.toNat < 4294967296; omega, by show s6.toNat < 4294967296; omega, by show s7.toNat < 4294967296; omega⟩, by show s0 = ((s0.toNat : Nat) : Int); omega, by show s1 = ((s1.toNat : Nat) : Int); omega, by show s2 = ((s2.toNat : Nat) : Int); omega, by show s3 = ((s3.toNat : Nat) : Int); omega, by show s4 = ((s4.toNat : Nat) : Int); omega, by show s5 = ((s5.toNat : Nat) : Int); omega, by show s6 = ((s6.toNat : Nat) : Int); omega, by show s7 = ((s7.toNat : Nat) : Int); omega⟩
/-- What the six rows of the rounds have in common. -/
theorem own : ownKnob Tryd.prog.godebug = none := by kernel_rfl
theorem g0 : Tryd.prog.globalNamed "sigillary/rounds.errWord" = some 0 := by kernel_rfl
theorem g2 : Tryd.prog.globalNamed "sigillary/rounds.errBlock" = some 2 := by kernel_rfl
theorem g3 : Tryd.prog.globalNamed "sigillary/rounds.constants" = some 3 := by kernel_rfl
theorem g0t : (Tryd.prog.globals[0]?).map (·.type) = some 67 := by kernel_rfl
theorem g2t : (Tryd.prog.globals[2]?).map (·.type) = some 67 := by kernel_rfl
theorem g3t : (Tryd.prog.globals[3]?).map (·.type) = some 108 := by kernel_rfl
theorem cells108 : Tryd.prog.cellsOf 108 = 64 := by kernel_rfl
theorem cells192 : Tryd.prog.cellsOf 192 = 1 := by kernel_rfl
theorem cells9 : Tryd.prog.cellsOf 9 = 1 := by kernel_rfl
theorem star : "*" ++ "errors.errorString" = "*errors.errorString" := by decide
theorem row174 (u : TypeId) (h : Tryd.prog.typeName? 3 u = some "*errors.errorString") : u = 174 :=
  typeName_ptr_named (nm := "errors.errorString") (by rw [star]; kernel_rfl) (by kernel_rfl) (by decide) u (by rw [star]; exact h)
theorem six_of {W : World} (h : W.ShapedOpen Tryd.prog) : 6 ≤ W.heap.size := by
  obtain ⟨⟨z, t⟩, hz⟩ := Option.isSome_iff_exists.1 (show (((begin Tryd.prog (fun _ _ => 0) default).world.heap[5]?).bind Obj.row?).isSome = true by kernel_rfl)
  obtain ⟨cs, hc, _⟩ := h.1 5 z t (of_decide_eq_true (by kernel_rfl)) hz
  exact lt_of_heap hc
theorem tab_eq : (Rows.laid_sigillary_rounds_constants : DataW Unit) = Lib.tabData .u32 (Sha.K.map Int.ofNat) := by kernel_rfl
theorem glob_of {W : World} {r : List (String × DataW Unit)} (hs : W.ShapedOpen Tryd.prog)
    (h : laidMet Tryd.prog (("sigillary/rounds.errBlock", Rows.laid_sigillary_rounds_errBlock) :: ("sigillary/rounds.errWord", Rows.laid_sigillary_rounds_errWord) :: ("sigillary/rounds.constants", Rows.laid_sigillary_rounds_constants) :: r) W) :
    ∃ aw ab, Glob W.heap.size aw ab W := by
  obtain ⟨ab, aw, sb, sw, cb, cw, tb, tw, hvb, hvw, _, _, _, _, _, _, hne, hb, hw⟩ := laid_sentinels2 h g2 g2t g0 g0t Tryd.underlying67 row174 Tryd.underlying174 Tryd.underlying192 rfl rfl Tryd.underlying9 cells192 cells9
  have ht := h.tail.tail
  rw [tab_eq] at ht
  have hT := Lib.tabIs_of_head g3 g3t Tryd.underlying108 Tryd.underlying73 cells73 cells108 ht
  refine ⟨aw, ab, by simpa using World.var?_cell g0 hvw 0, by simpa using World.var?_cell g2 hvb 0, fun i hi => ?_, ⟨_, _, hw⟩, ⟨_, _, hb⟩, fun e => hne e.symm, lt_of_heap hw, lt_of_heap hb, six_of hs, Nat.le_refl _⟩
  have hk : i < Sha.K.length := hi
  have hc := hT.cell g3 i (by rw [List.length_map]; exact hk)
  rw [hc, List.getD_eq_getElem?_getD, List.getElem?_map, List.getElem?_eq_getElem hk]
  rfl
end Go.Proofs.YtfafidholldjlaaDoor
/- A world that holds what the rows lay. -/
set_option linter.unusedVariables false
set_option linter.unusedSimpArgs false
namespace Go.Proofs.YtfafidholldjlaaDoor
open Go.ChangeShapes Go.WideShapes Go.ChangeAt Go.RowKit
noncomputable def low : Nat := (World.holding Tryd.prog default ⟨#[], #[], []⟩).heap.size
noncomputable def laidWorld (os : Os) : World :=
  let w0 := World.holding Tryd.prog os ⟨#[.cells #[.string ⟨#[110, 111, 32, 119, 111, 114, 100]⟩] 192, .cells #[.string ⟨#[110, 111, 32, 98, 108, 111, 99, 107]⟩] 192], #[], []⟩
  let put (h : Array Obj) (g : Nat) (cs : Array Value) : Array Obj := h.modify g fun
    | .cells _ t frozen => .cells cs t frozen
    | o => o
  let h1 := put w0.heap 0 #[.iface 174 (.pointer (some ⟨low, 0, none⟩))]
  let h2 := put h1 2 #[.iface 174 (.pointer (some ⟨low + 1, 0, none⟩))]
  let h3 := put h2 3 (Sha.K.map fun n => Value.int .u32 (Int.ofNat n)).toArray
  let h4 := put h3 1 (Sha.K.map fun n => Value.int .i64 (Int.ofNat n)).toArray
  { w0 with heap := h4 }
theorem laid_met (os : Os) (args : Array Value) : laidMet Tryd.prog Rows.roundsWordsRow.laid ((laidWorld os).forCall (fun _ _ => 0) ⟨#[], args, []⟩).memory :=
  laidMet_of_run' 8 (by kernel_rfl) (by kernel_rfl)
theorem laid_met_ref (os : Os) (args : Array Value) : laidMet Tryd.prog Rows.roundsTellsRow.laid ((laidWorld os).forCall (fun _ _ => 0) ⟨#[], args, []⟩).memory :=
  laidMet_of_run' 8 (by kernel_rfl) (by kernel_rfl)
/-- What a call leaves that has changed nothing old and whose arguments hold no memory. -/
theorem post_plain {H : Type} {enc : TypeId × Value → H} {P : Program} {f : Func} {s : ChangeSpec} {apart fresh handsOn again : Bool} {W W' : World} {args : Array Value} {v : Value} {ds gs : List (DataW H)}
    (hW : DataW.Whole enc P f.params.toList s.vars apart W args.toList ds gs [])
    (hres : ∀ (b : Nat) (sp : Nat → Bool) (hd : Bool), DataW.TrodAll enc P W' b sp hd f.resultTypes.toList (v.resultList f.resultTypes.size) (s.fn H (ds ++ gs)).results [])
    (hargs : ∀ sp : Nat → Bool, DataW.TrodAll enc P W' 0 sp true f.params.toList args.toList (s.fn H (ds ++ gs)).args [])
    (hvars : ∀ sp : Nat → Bool, DataW.TrodVars enc P W' sp s.vars (s.fn H (ds ++ gs)).vars [])
    (hb : Below W.heap.size W W')
    (hok : ∀ (j : Nat) (t : TypeId) (r : Value), f.resultTypes[j]? = some t → (v.resultList f.resultTypes.size)[j]? = some r → Value.okWide P W' .any 0 t r) :
    s.post enc P f apart fresh handsOn again W args v W' := by
  refine ⟨ds, gs, [], [], [], [], hW, hres _ _ _, hargs _, hvars _, World.keptBut_mono (fun p hp => ⟨hp, ?_⟩) (hb.frame (· ∈ [])), fun _ => ?_⟩
  · cases hp
  · refine ⟨hok, _, _, ([] ++ []) ++ [], ⟨[] ++ [], [], trodAll_append (hargs _) (hres _ _ _), hvars _, rfl, ?_, ?_⟩, ?_⟩
    · intro b off hp
      cases hp
    · intro _
      exact List.nodup_nil
    · intro p hp _
      exact hp
end Go.Proofs.YtfafidholldjlaaDoor
/- What the program's head says, reckoned once for all rows. -/
set_option linter.unusedVariables false
set_option linter.unusedSimpArgs false
namespace Go.Proofs.YtfafidholldjlaaDoor
open Go.RowKit
def space : Char := Char.ofNat 32
def head1 : List Char := ([104, 97, 114, 110, 101, 115, 115] : List Nat).map Char.ofNat
def head2 : List Char := ([56, 102, 49, 51, 48, 55, 50, 48, 48, 50, 56, 54, 101, 49, 100, 52, 101, 52, 50, 55, 54, 99, 48, 51, 102, 53, 57, 52, 100, 56, 101, 100, 99, 50, 52, 100, 48, 52, 53, 57, 49, 57, 99, 98, 48, 57, 53, 48, 54, 49, 53, 102, 97, 53, 99, 53, 51, 55, 101, 49, 52, 57, 54, 51] : List Nat).map Char.ofNat
def head3 : List Char := ([99, 117, 116] : List Nat).map Char.ofNat
def head4 : List Char := ([97, 116, 32, 115, 105, 103, 105, 108, 108, 97, 114, 121, 47, 115, 105, 103, 105, 108, 108, 97, 114, 121, 108, 97, 119, 48, 49, 46, 82, 111, 117, 110, 100, 115, 84, 101, 108, 108, 115, 32, 115, 105, 103, 105, 108, 108, 97, 114, 121, 47, 115, 105, 103, 105, 108, 108, 97, 114, 121, 108, 97, 119, 48, 49, 46, 82, 111, 117, 110, 100, 115, 80, 97, 114, 116, 115, 32, 115, 105, 103, 105, 108, 108, 97, 114, 121, 47, 115, 105, 103, 105, 108, 108, 97, 114, 121, 108, 97, 119, 48, 49, 46, 82, 111, 117, 110, 100, 115, 87, 111, 114, 100, 115, 32, 115, 105, 103, 105, 108, 108, 97, 114, 121, 47, 115, 105, 103, 105, 108, 108, 97, 114, 121, 108, 97, 119, 48, 49, 46, 82, 111, 117, 110, 100, 115, 66, 97, 99, 107, 32, 115, 105, 103, 105, 108, 108, 97, 114, 121, 47, 115, 105, 103, 105, 108, 108, 97, 114, 121, 108, 97, 119, 48, 49, 46, 82, 111, 117, 110, 100, 115, 87, 104, 111, 108, 101, 32, 115, 105, 103, 105, 108, 108, 97, 114, 121, 47, 115, 105, 103, 105, 108, 108, 97, 114, 121, 108, 97, 119, 48, 49, 46, 82, 111, 117, 110, 100, 115, 65, 112, 97, 114, 116, 32, 115, 105, 103, 105, 108, 108, 97, 114, 121, 47, 115, 105, 103, 105, 108, 108, 97, 114, 121, 108, 97, 119, 48, 50, 46, 68, 105, 103, 101, 115, 116, 84, 101, 108, 108, 115, 32, 115, 105, 103, 105, 108, 108, 97, 114, 121, 47, 115, 105, 103, 105, 108, 108, 97, 114, 121, 108, 97, 119, 48, 50, 46, 68, 105, 103, 101, 115, 116, 80, 105, 101, 99, 101, 115, 32, 115, 105, 103, 105, 108, 108, 97, 114, 121, 47, 115, 105, 103, 105, 108, 108, 97, 114, 121, 108, 97, 119, 48, 50, 46, 68, 105, 103, 101, 115, 116, 66, 108, 111, 99, 107, 115, 32, 115, 105, 103, 105, 108, 108, 97, 114, 121, 47, 115, 105, 103, 105, 108, 108, 97, 114, 121, 108, 97, 119, 48, 50, 46, 68, 105, 103, 101, 115, 116, 69, 110, 100, 115, 32, 115, 105, 103, 105, 108, 108, 97, 114, 121, 47, 115, 105, 103, 105, 108, 108, 97, 114, 121, 108, 97, 119, 48, 50, 46, 68, 105, 103, 101, 115, 116, 84, 119, 111, 32, 115, 105, 103, 105, 108, 108, 97, 114, 121, 47, 115, 105, 103, 105, 108, 108, 97, 114, 121, 108, 97, 119, 48, 50, 46, 68, 105, 103, 101, 115, 116, 80, 108, 97, 121, 115, 32, 115, 105, 103, 105, 108, 108, 97, 114, 121, 47, 115, 105, 103, 105, 108, 108, 97, 114, 121, 108, 97, 119, 48, 50, 46, 68, 105, 103, 101, 115, 116, 82, 101, 115, 101, 116, 115, 32, 115, 105, 103, 105, 108, 108, 97, 114, 121, 47, 115, 105, 103, 105, 108, 108, 97, 114, 121, 108, 97, 119, 48, 51, 46, 84, 97, 103, 84, 101, 108, 108, 115, 32, 115, 105, 103, 105, 108, 108, 97, 114, 121, 47, 115, 105, 103, 105, 108, 108, 97, 114, 121, 108, 97, 119, 48, 51, 46, 84, 97, 103, 75, 101, 121, 115, 32, 115, 105, 103, 105, 108, 108, 97, 114, 121, 47, 115, 105, 103, 105, 108, 108, 97, 114, 121, 108, 97, 119, 48, 51, 46, 84, 97, 103, 66, 97, 99, 107, 32, 115, 105, 103, 105, 108, 108, 97, 114, 121, 47, 115, 105, 103, 105, 108, 108, 97, 114, 121, 108, 97, 119, 48, 51, 46, 84, 97, 103, 69, 110, 100, 115, 32, 115, 105, 103, 105, 108, 108, 97, 114, 121, 47, 115, 105, 103, 105, 108, 108, 97, 114, 121, 108, 97, 119, 48, 51, 46, 84, 97, 103, 80, 97, 114, 116, 115, 32, 115, 105, 103, 105, 108, 108, 97, 114, 121, 47, 115, 105, 103, 105, 108, 108, 97, 114, 121, 108, 97, 119, 48, 51, 46, 84, 97, 103, 74, 111, 105, 110, 115, 32, 115, 105, 103, 105, 108, 108, 97, 114, 121, 47, 115, 105, 103, 105, 108, 108, 97, 114, 121, 108, 97, 119, 48, 51, 46, 84, 97, 103, 69, 113, 117, 97, 108] : List Nat).map Char.ofNat
theorem head_eq : Tryd.prog.initOrder = String.ofList (head1 ++ space :: (head2 ++ space :: (head3 ++ space :: head4))) := by kernel_rfl
theorem words_front : ∀ (w r : List Char), (∀ c ∈ w, c ≠ space) → wordsSigns (w ++ space :: r) = w :: wordsSigns r
  | [], r, _ => rfl
  | c :: w, r, h => by
    have ih := words_front w r (fun x hx => h x (List.mem_cons_of_mem _ hx))
    have hc : c ≠ space := h c List.mem_cons_self
    show wordsSigns (c :: (w ++ space :: r)) = _
    rw [wordsSigns.eq_3 c _ (fun e => hc e), ih]
theorem head_words : ∃ rest, behindMainWord (wordsSigns Tryd.prog.initOrder.toList) = head3 :: rest := by
  refine ⟨wordsSigns head4, ?_⟩
  rw [head_eq, String.toList_ofList, words_front _ _ (by decide), words_front _ _ (by decide), words_front _ _ (by decide)]
  have e : ((head1 == "harness".toList || head1 == "ownmain".toList) && isSumSigns head2) = true := by kernel_rfl
  show (if ((head1 == "harness".toList || head1 == "ownmain".toList) && isSumSigns head2) = true then head3 :: wordsSigns head4 else head1 :: head2 :: head3 :: wordsSigns head4) = _
  rw [e]
  exact if_pos rfl
theorem strip (rest : List (List Char)) : stripLifts liftWords (head3 :: rest) = ([], head3 :: rest) := by kernel_rfl
theorem no_gc : (head3 == "gc".toList) = false := by kernel_rfl
theorem no_spec : (head3 == "spec".toList) = false := by kernel_rfl
theorem no_carried : (head3 == "carried".toList) = false := by kernel_rfl
theorem is_cut : (head3 == "cut".toList) = true := by kernel_rfl
theorem may_of {P : Program} {rest : List (List Char)} (h : behindMainWord (wordsSigns P.initOrder.toList) = head3 :: rest) (h1 : P.laysLater = false) (h2 : P.bearsReflect = false) (h3 : P.doorFits [] = true) : P.mayEnter = true := by
  unfold Program.mayEnter
  rw [h]
  simp only [strip, no_gc, no_spec, no_carried, h1, h2, h3, List.head?_cons, Option.some_beq_some, is_cut]
  simp
theorem make_of {P : Program} {rest : List (List Char)} (h : behindMainWord (wordsSigns P.initOrder.toList) = head3 :: rest) : P.make = some .cut := by
  unfold Program.make
  rw [h]
  simp only [no_gc, no_spec, is_cut]
  simp
theorem lifts_of {P : Program} {rest : List (List Char)} (h : behindMainWord (wordsSigns P.initOrder.toList) = head3 :: rest) : P.liftsFinal = false := by
  unfold Program.liftsFinal Program.headLifts
  rw [h]
  simp only [strip, List.head?_cons, Option.some_beq_some, no_carried, is_cut]
  simp
theorem may : Tryd.prog.mayEnter = true := by
  obtain ⟨rest, h⟩ := head_words
  exact may_of h (by kernel_rfl) (by kernel_rfl) (by kernel_rfl)
theorem lifts : Tryd.prog.liftsFinal = false := by
  obtain ⟨rest, h⟩ := head_words
  exact lifts_of h
theorem make_cut : Tryd.prog.make = some .cut := by
  obtain ⟨rest, h⟩ := head_words
  exact make_of h
theorem main_of {P : Program} {rest : List (List Char)} (h : wordsSigns P.initOrder.toList = head1 :: head2 :: rest) : P.mainIs = some (true, "8f1307200286e1d4e4276c03f594d8edc24d045919cb0950615fa5c537e14963".toList) := by
  unfold Program.mainIs
  rw [h]
  have e1 : (head1 == "harness".toList) = true := by kernel_rfl
  have e2 : isSumSigns head2 = true := by kernel_rfl
  have e3 : head2 = "8f1307200286e1d4e4276c03f594d8edc24d045919cb0950615fa5c537e14963".toList := by kernel_rfl
  show (if (!isSumSigns head2) = true then none else if (head1 == "harness".toList) = true then some (true, head2) else if (head1 == "ownmain".toList) = true then some (false, head2) else none) = _
  rw [e2, e1, if_neg (by decide), if_pos rfl, e3]
theorem main_is : Tryd.prog.mainIs = some (true, "8f1307200286e1d4e4276c03f594d8edc24d045919cb0950615fa5c537e14963".toList) := by
  refine main_of (rest := head3 :: wordsSigns head4) ?_
  rw [head_eq, String.toList_ofList, words_front _ _ (by decide), words_front _ _ (by decide), words_front _ _ (by decide)]
end Go.Proofs.YtfafidholldjlaaDoor
