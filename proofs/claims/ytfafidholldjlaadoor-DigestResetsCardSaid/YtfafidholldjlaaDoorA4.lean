/- What the listed variables hold, kept by whatever leaves the first blocks alone; told, checkBlock. -/
import Derived.Test.YtfafidholldjlaaDoorA3
import Derived.Test.YtfafidholldjlaaDoorSpecB
import Derived.Lib.Hide
set_option linter.unusedVariables false
set_option linter.unusedSimpArgs false
namespace Go.Proofs.YtfafidholldjlaaDoor
open Go.RowKit
structure Glob (B : Nat) (aw ab : Addr) (w : World) : Prop where
  word : w.cell? ⟨0, 0, none⟩ = some (.iface 174 (.pointer (some aw)))
  blk : w.cell? ⟨2, 0, none⟩ = some (.iface 174 (.pointer (some ab)))
  const : ∀ i (h : i < 64), w.cell? ⟨3, i, none⟩ = some (.int .u32 ((Sha.K[i]'h : Nat) : Int))
  hw : ∃ c t, w.heap[aw.block]? = some (.cells c t (0, 0))
  hb : ∃ c t, w.heap[ab.block]? = some (.cells c t (0, 0))
  ne : aw ≠ ab
  lw : aw.block < B
  lb : ab.block < B
  six : 6 ≤ B
  size : B ≤ w.heap.size
theorem Glob.below {B : Nat} {aw ab : Addr} {w w' : World} (h : Glob B aw ab w) (hb : Below B w w') : Glob B aw ab w' :=
  have h6 := h.six
  ⟨(hb.cell (p := ⟨0, 0, none⟩) (show (0 : Nat) < B by omega)).trans h.word, (hb.cell (p := ⟨2, 0, none⟩) (show (2 : Nat) < B by omega)).trans h.blk, fun i hi => (hb.cell (p := ⟨3, i, none⟩) (show (3 : Nat) < B by omega)).trans (h.const i hi),
   let ⟨c, t, e⟩ := h.hw; ⟨c, t, (hb.block _ h.lw).trans e⟩, let ⟨c, t, e⟩ := h.hb; ⟨c, t, (hb.block _ h.lb).trans e⟩, h.ne, h.lw, h.lb, h.six, Nat.le_trans h.size hb.size⟩
theorem Glob.pos {B : Nat} {aw ab : Addr} {w : World} (h : Glob B aw ab w) : 6 ≤ w.heap.size := Nat.le_trans h.six h.size
theorem is_nil (b : Addr) (w : World) :
    Calls Tryd.prog 81 #[.nilIface, .iface 174 (.pointer (some b))] w fun e w' => e = .returned (.bool false) ∧ w = w' := by
  have hn := run_eql_iface_nil_left (P := Tryd.prog) w 174 (.pointer (some b)) Tryd.underlying67
  go_enter Tryd.func81, Tryd.ntmps81
  go_wp2
  go_ret
  exact ⟨rfl, rfl⟩
set_option maxRecDepth 100000 in
theorem told_nil {B : Nat} {aw ab : Addr} {w : World} (h : Glob B aw ab w) :
    Calls Tryd.prog 61 #[.nilIface] w fun e w' => e = .returned (.int .i64 0) ∧ w = w' := by
  have h1 := h.word
  have h2 := h.blk
  clear h
  go_enter Tryd.func61, Tryd.ntmps61
  go_wp2_with (go_at_call 81; refine (is_nil _ _).mono ?_; rintro e w' ⟨rfl, rfl⟩)
  go_ret
  exact ⟨rfl, rfl⟩
set_option maxRecDepth 100000 in
theorem told_block {B : Nat} {aw ab : Addr} {w : World} (h : Glob B aw ab w) :
    Calls Tryd.prog 61 #[.iface 174 (.pointer (some ab))] w fun e w' => e = .returned (.int .i64 10) ∧ w = w' := by
  have h1 := h.word
  have h2 := h.blk
  clear h
  go_enter Tryd.func61, Tryd.ntmps61
  go_wp2_with (go_at_call 81; refine (is_same _ _).mono ?_; rintro e w' ⟨rfl, rfl⟩)
  go_ret
  exact ⟨rfl, rfl⟩
set_option maxRecDepth 100000 in
theorem told_word {B : Nat} {aw ab : Addr} {w : World} (h : Glob B aw ab w) :
    Calls Tryd.prog 61 #[.iface 174 (.pointer (some aw))] w fun e w' => e = .returned (.int .i64 11) ∧ w = w' := by
  have h1 := h.word
  have h2 := h.blk
  obtain ⟨cw, tw, hw⟩ := h.hw
  obtain ⟨cb, tb, hb⟩ := h.hb
  have hne := h.ne
  clear h
  have c1 := Lib.hid (is_other aw ab cw cb tw tb w hne hw hb)
  clear hne hw hb
  go_enter Tryd.func61, Tryd.ntmps61
  go_wp2_with fail
  refine c1.out.mono ?_
  rintro e w' ⟨rfl, rfl⟩
  go_wp2_with fail
  refine (is_same _ _).mono ?_
  rintro e w' ⟨rfl, rfl⟩
  go_wp2_with fail
  go_ret
  exact ⟨rfl, rfl⟩
theorem checkBlock_ok (s : ByteArray) (w : World) (hs : s.size = 64) :
    Calls Tryd.prog 60 #[.string s] w fun e w' => e = .returned .nilIface ∧ w = w' := by
  have hb : ((s.size : Int) != 64) = false := by simp [hs]
  clear hs
  go_enter Tryd.func60, Tryd.ntmps60
  go_wp2
  go_ret
  exact ⟨rfl, rfl⟩
theorem checkBlock_bad {B : Nat} {aw ab : Addr} {w : World} (h : Glob B aw ab w) (s : ByteArray) (hs : s.size ≠ 64) :
    Calls Tryd.prog 60 #[.string s] w fun e w' => e = .returned (.iface 174 (.pointer (some ab))) ∧ w = w' := by
  have hb : ((s.size : Int) != 64) = true := by simp; omega
  have h2 := h.blk
  clear hs h
  go_enter Tryd.func60, Tryd.ntmps60
  go_wp2
  go_ret
  exact ⟨rfl, rfl⟩
end Go.Proofs.YtfafidholldjlaaDoor
