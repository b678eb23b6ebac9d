/- A text's rows, as an iterator. -/
import Derived.Test.YtofikmdfiimbbaaDoorL1
import Derived.Test.YtofikmdfiimbbaaDoorPc
import Derived.Test.YtofikmdfiimbbaaDoorRange3
import Derived.RangeFuncNested
import Derived.RangeFuncCalls
import Derived.RangeFuncLeaves
import Derived.OwnWalkIn
import Derived.TacticsInMore
import Derived.RangeFuncBox
import Derived.Maps.AppendAt
import Derived.Deep.Cut
import Derived.Deep.DrawnRows
set_option linter.unusedVariables false
set_option linter.unusedSimpArgs false
namespace Go.Proofs.YtofikmdfiimbbaaDoor
open Go.RowKit
attribute [local go_sem ↓] Go.wp_at_zero Go.wp_at_succ
/-- What a body keeps. -/
def RS (bs : Nat) (W W' : World) : Prop := W.heap.size ≤ W'.heap.size ∧ ∀ k x, k = bs ∨ k = 2 → W.heap[k]? = some x → W'.heap[k]? = some x
def rowAt (s : ByteArray) (t : Nat) : ByteArray := ⟨((Ln.rows s.data.toList).getD t []).toArray⟩
theorem rows_len (s : ByteArray) (t : Nat) (cur : ByteArray) (h : (Ln.rows s.data.toList).drop t = Ln.rows cur.data.toList) (hc : cur.size ≠ 0) : t < (Ln.rows s.data.toList).length := by
  by_cases h' : t < (Ln.rows s.data.toList).length
  · exact h'
  · rw [List.drop_eq_nil_of_le (by omega)] at h
    exact absurd h.symm (Ln.rows_ne _ (by intro e; have := text_size cur; rw [e] at this; simp at this; omega))
set_option maxRecDepth 100000 in
set_option maxHeartbeats 2000000 in
theorem rows_calls (s : ByteArray) (hs : s.size ≤ 1000000) (l bs : Nat) (J : Nat → World → Prop) (Jx : World → Prop)
    (hJ : ∀ t W W', J t W → Far (· = bs) W W' → J t W')
    (hY : ∀ t, t < (Ln.rows s.data.toList).length → ∀ W, J t W → YieldAt Fence.wide 3 Tryd.prog l #[.int .i64 ((t : Int) + 1), .agg #[.string (rowAt s t)]] W fun e W' => (e = .returned (.bool true) ∧ J (t + 1) W' ∧ RS bs W W') ∨ (e = .returned (.bool false) ∧ Jx W'))
    (W : World) (hbs : W.heap[bs]? = some (.cells #[.string s] 9 (0, 0))) (hb : bs ≠ 2) (m : Int) (om : Obj) (hm : W.heap[2]? = some om) (hcm : ∀ wx : World, wx.heap[2]? = some om → wx.cell? ⟨2, 0, none⟩ = some (.int .i64 m)) (h0 : J 0 W) :
    Calls Tryd.prog 32 #[.func (.yield l) #[] #[], .pointer (some ⟨bs, 0, none⟩)] W fun e W' => e = .returned (.tuple #[]) ∧ (J (Ln.rows s.data.toList).length W' ∨ Jx W') := by
  obtain ⟨N, hN⟩ : ∃ N, (Ln.rows s.data.toList).length = N := ⟨_, rfl⟩
  have HJ := Lib.hid hJ
  have HCM := Lib.hid hcm
  have HY := Lib.hid hY
  have HN := Lib.hid hN
  rw [hN]
  clear hJ hY hN hcm
  have hN1 : N ≤ 1000000 := by
    have := Ln.rows_size s.data.toList
    rw [HN.out, text_size] at this
    omega
  go_enter Tryd.func32, Tryd.ntmps32
  go_wp2_with fail
  go_step3
  go_wp2_with fail
  go_step3
  go_wp2_with fail
  go_loopw [3, 4, 5, 6] (fun a _ _ _ wr => ∃ (t : Nat) (cur : ByteArray), a = .int .i64 ((t : Int) + 1) ∧ wr.heap[bs]? = some (.cells #[.string cur] 9 (0, 0)) ∧ (Ln.rows s.data.toList).drop t = Ln.rows cur.data.toList ∧ cur.size ≤ s.size ∧ t ≤ N ∧ wr.heap[2]? = some om ∧ J t wr) (fun a _ _ _ _ => N + 1 - (Lib.intOf a).toNat)
  case atStart => exact ⟨0, s, rfl, hbs, rfl, Nat.le_refl _, Nat.zero_le _, hm, h0⟩
  case round =>
    obtain ⟨t, cur, rfl, hcb, hdr, hcs, htN, hmm, rJ⟩ := hrel
    have c0 : wr.cell? ⟨bs, 0, none⟩ = some (.string cur) := cell_of hcb 0
    by_cases hz : cur.size = 0
    · have he : cur.toList.isEmpty = true := by
        rw [ByteArray.toList_eq]
        have := text_size cur
        cases hd : cur.data.toList with
        | nil => rfl
        | cons x u => rw [hd] at this; simp at this; omega
      have hce : cur.data.toList = [] := by rw [ByteArray.toList_eq] at he; simpa using he
      have htn : t = N := by
        rw [hce] at hdr
        have e := congrArg List.length hdr
        rw [List.length_drop, HN.out] at e
        simp only [Ln.rows, List.length_nil] at e
        omega
      subst htn
      go_wp2_with fail
      rw [Exit.noGoto_normal]
      go_end0
      exact ⟨rfl, .inl rJ⟩
    · have hce : cur.data.toList ≠ [] := by intro e; have := text_size cur; rw [e] at this; simp at this; omega
      have he : cur.toList.isEmpty = false := by rw [ByteArray.toList_eq]; simpa using hce
      have hcut := fun w hw => Tryd.strings_Cut cur ⟨#[10]⟩ m w (by omega) hw
      have hrc := Ln.rows_cut cur.data.toList hce
      have hless := Ln.cut_less cur.data.toList hce
      have htl := rows_len s t cur hdr hz
      rw [HN.out] at htl
      change ∀ w hw, Calls Tryd.prog 33 #[.string cur, .string ⟨#[10]⟩] w fun e w' => e = .returned (.tuple #[.string ⟨(Lib.cut cur.data.toList [10]).1.toArray⟩, .string ⟨(Lib.cut cur.data.toList [10]).2.1.toArray⟩, .bool (Lib.cut cur.data.toList [10]).2.2]) ∧ ∃ n, w' = w.drewN n at hcut
      obtain ⟨o, ho⟩ : ∃ o : ByteArray, (⟨(Lib.cut cur.data.toList [10]).1.toArray⟩ : ByteArray) = o := ⟨_, rfl⟩
      obtain ⟨r, hr⟩ : ∃ o : ByteArray, (⟨(Lib.cut cur.data.toList [10]).2.1.toArray⟩ : ByteArray) = o := ⟨_, rfl⟩
      have hr2 : (Lib.cut cur.data.toList [10]).2.1 = r.data.toList := by rw [← hr]
      have ho2 : (Lib.cut cur.data.toList [10]).1 = o.data.toList := by rw [← ho]
      simp only [ho, hr] at hcut
      rw [hr2] at hless hrc
      rw [ho2] at hrc
      generalize (Lib.cut cur.data.toList [10]).2.2 = k at hcut
      rw [hrc] at hdr
      have hrow : rowAt s t = o := by
        unfold rowAt
        have e := congrArg (fun x => x[0]?) hdr
        simp only [List.getElem?_drop, Nat.add_zero, List.getElem?_cons_zero] at e
        rw [List.getD_eq_getElem?_getD, e]
        rfl
      have hdr2 : (Ln.rows s.data.toList).drop (t + 1) = Ln.rows r.data.toList := by
        have e := congrArg List.tail hdr
        simpa [List.tail_drop] using e
      rw [text_size, text_size] at hless
      have HCUT := Lib.hid hcut
      have HROW := Lib.hid hrow
      have HD2 := Lib.hid hdr2
      clear hcut hrow hdr2 hdr hrc hr2 ho2 ho hr hce
      go_wp2_with fail
      refine (HCUT.out wr (HCM.out wr hmm)).mono ?_
      rintro e w1 ⟨rfl, n, hw1⟩
      have f1 : Far (· = bs) wr w1 := by rw [hw1]; exact (Far.refl _ _).drewN n
      have hJ1 := HJ.out t _ _ rJ f1
      have hcb1 : w1.heap[bs]? = some (.cells #[.string cur] 9 (0, 0)) := by rw [hw1]; exact hcb
      have hm1 : w1.heap[2]? = some om := by rw [hw1]; exact hmm
      clear hw1 f1 rJ hmm c0 hcb
      go_upto_region 4 with (fail)
      refine (wpIn_wide (n := 4)).1 ?_
      have hY := HY.out t (by rw [HN.out]; exact htl) w1 hJ1
      rw [HROW.out] at hY
      obtain ⟨fn, tmps, assign, body, hy, hR⟩ := hY
      have RR := Lib.hid hR
      clear hR
      gi_wp2
      refine (RR.out).mono ?_
      rintro e W3 (⟨rfl, hJ3, hS3⟩ | ⟨rfl, hx⟩)
      · have hcb3 : W3.heap[bs]? = some (.cells #[.string cur] 9 (0, 0)) := hS3.2 bs _ (.inl rfl) hcb1
        have hm3 : W3.heap[2]? = some om := hS3.2 2 _ (.inr rfl) hm1
        have c3 : W3.cell? ⟨bs, 0, none⟩ = some (.string cur) := cell_of hcb3 0
        have z3 : W3.frozen? ⟨bs, 0, none⟩ = false := frozen_of hcb3 0
        have hm4 : (W3.setCell ⟨bs, 0, none⟩ (.string r)).heap[2]? = some om := (Below.heap_setCell _ _ _ _ (by show 2 ≠ bs; exact fun e => hb e.symm)).trans hm3
        have hJ4 := HJ.out (t + 1) _ _ hJ3 ((Far.refl (· = bs) W3).setCell (p := ⟨bs, 0, none⟩) (fun _ => rfl) (.string r))
        have wrp : IntKind.i64.wrap ((t : Int) + 1 + 1) = (t : Int) + 1 + 1 := IntWalk.i64_in _ (by omega)
        have HJ4 := Lib.hid hJ4
        have HCB3 := Lib.hid hcb3
        clear hJ4 hJ3 hS3 hcb3
        gi_wp2
        go_wp2_with fail
        go_roundw
        case rel => exact ⟨t + 1, r, by simp, setCell_heap HCB3.out 0 _, HD2.out, by omega, by omega, hm4, HJ4.out⟩
        case measure =>
          simp [Lib.intOf]
          omega
      · gi_wp2
        go_wp2_with fail
        rw [Exit.noGoto_normal]
        go_end0
        exact ⟨rfl, .inr hx⟩
theorem enters32 (args : Array Value) (w : World) : (callFunc 32 args).run Tryd.prog w = .ok (.enter 32 args) w := by kernel_rfl
theorem rows_any (s : ByteArray) (w : World) : Calls Tryd.prog 19 #[.string s] w fun e w' => e = .returned (.func (.func 32) #[] #[.pointer (some ⟨w.heap.size, 0, none⟩)]) ∧ w' = w.alloc (.cells #[.string s] 9) := by
  go_enter Tryd.func19, Tryd.ntmps19
  go_wp2
  go_ret
  exact ⟨rfl, rfl⟩
theorem rows_iter (s : ByteArray) (hs : s.size ≤ 1000000) (bs : Nat) (w : World) (hbs : w.heap[bs]? = some (.cells #[.string s] 9 (0, 0))) (hb : bs ≠ 2) (m : Int) (hm : w.cell? ⟨2, 0, none⟩ = some (.int .i64 m)) (h2 : 2 < w.heap.size) :
    Iter3 true Tryd.prog 32 #[.pointer (some ⟨bs, 0, none⟩)] 3 (Ln.rows s.data.toList).length (fun t => #[.int .i64 ((t : Int) + 1), .agg #[.string (rowAt s t)]]) (Far (· = bs)) (RS bs) (fun _ => True) w := by
  intro l J Jx W1 hbl hsz hJ hJx _ hY h0
  obtain ⟨om, hom⟩ : ∃ o, w.heap[2]? = some o := ⟨_, Array.getElem?_eq_getElem h2⟩
  refine (rows_calls s hs l bs J Jx hJ hY W1 ((hbl.block _ (lt_of_heap hbs)).trans hbs) hb m om ((hbl.block _ h2).trans hom) (fun wx hx => (World.cell?_of_block (w := w) (a := ⟨2, 0, none⟩) (hx.trans hom.symm)).trans hm) h0).mono ?_
  rintro e W' ⟨rfl, h⟩
  refine ⟨⟨_, rfl⟩, ?_⟩
  rcases h with h | h
  · exact .inl ⟨h, trivial⟩
  · exact .inr h
end Go.Proofs.YtofikmdfiimbbaaDoor
