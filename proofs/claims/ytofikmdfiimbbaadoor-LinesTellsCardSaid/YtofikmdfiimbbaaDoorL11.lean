/- Join: its first loop. -/
import Derived.Test.YtofikmdfiimbbaaDoorL10
import Derived.Test.YtofikmdfiimbbaaDoorBu
set_option linter.unusedVariables false
set_option linter.unusedSimpArgs false
namespace Go.Proofs.YtofikmdfiimbbaaDoor
open Go.RowKit
/-- A slice of lines that can be read. -/
def LA (w : World) (at0 : Option Addr) (g o : Nat) (ls : List Ln.Line) : Prop :=
  ls ≠ [] → at0 = some ⟨g, o, none⟩ ∧ g < w.heap.size ∧ ∀ (i : Nat) (x : Ln.Line), ls[i]? = some x → w.cell? ⟨g, o + i * 3, none⟩ = some (.int .i64 x.no) ∧ w.cell? ⟨g, o + i * 3 + 1, none⟩ = some (.int .i64 x.ind) ∧ w.cell? ⟨g, o + i * 3 + 2, none⟩ = some (.string ⟨x.s.toArray⟩)
theorem LA.keep {w w' : World} {at0 : Option Addr} {g o : Nat} {ls : List Ln.Line} (h : LA w at0 g o ls) (hb : Below w.heap.size w w') : LA w' at0 g o ls := by
  intro hne
  obtain ⟨h1, h2, h3⟩ := h hne
  have hc : ∀ k, w'.cell? ⟨g, k, none⟩ = w.cell? ⟨g, k, none⟩ := fun k => World.cell?_of_block (w := w) (hb.block g h2)
  refine ⟨h1, Nat.lt_of_lt_of_le h2 hb.size, fun i x hx => ?_⟩
  rw [hc, hc, hc]
  exact h3 i x hx
theorem drop_cons (ls : List Ln.Line) (i : Nat) (x : Ln.Line) (h : ls[i]? = some x) : ls.drop i = x :: ls.drop (i + 1) := by
  have hlt : i < ls.length := by
    by_cases h' : i < ls.length
    · exact h'
    · rw [List.getElem?_eq_none (by omega)] at h; simp at h
  rw [List.drop_eq_getElem_cons hlt]
  congr 1
  rw [List.getElem?_eq_getElem hlt] at h
  exact Option.some.inj h
theorem toList_mk (l : Ln.B) : (⟨l.toArray⟩ : ByteArray).data.toList = l := rfl
theorem mk_size (l : Ln.B) : (⟨l.toArray⟩ : ByteArray).size = l.length := rfl
attribute [local go_sem ↓] run_string_add_sum
theorem builder_below {T e : TypeId} {B b : Nat} {bs : List Value} {w w' : World} (h : Lib.IsBuilderF T e B b bs w) (hb : Below w.heap.size w w') : Lib.IsBuilderF T e B b bs w' := by
  have key : ∀ p, Lib.BuilderAtF T e B b p bs w → Lib.BuilderAtF T e B b p bs w' := by
    rintro p ⟨hB, v, hbk, hown, hne⟩
    refine ⟨hB, v, (hb.block _ (lt_of_heap hbk)).trans hbk, ⟨hown.1, ?_⟩, hne⟩
    rcases hown.2 with h | ⟨g, cap, cur, fz, rfl, hg, hgg, rest⟩
    · exact .inl h
    · exact .inr ⟨g, cap, cur, fz, rfl, hg, (hb.block _ (lt_of_heap hgg)).trans hgg, rest⟩
  exact h.elim (fun x => .inl (key _ x)) (fun x => .inr (key _ x))
theorem repeatL_one (c : UInt8) : ∀ k, Lib.repeatL [c] k = List.replicate k c
  | 0 => rfl
  | k + 1 => by rw [Lib.repeatL, repeatL_one c k]; rfl
theorem rep_any (c : UInt8) (k : Nat) (ki : Int) (hk : ki = (k : Int)) (hk2 : k ≤ 100000) (w : World) : Calls Tryd.prog 27 #[.string ⟨#[c]⟩, .int .i64 ki] w fun e w' => e = .returned (.string ⟨(List.replicate k c).toArray⟩) ∧ Below w.heap.size w w' := by
  subst hk
  have h := Tryd.strings_Repeat ⟨#[c]⟩ k w (by omega) (by show 1 * k ≤ _; omega)
  rw [show (⟨#[c]⟩ : ByteArray).data.toList = [c] from rfl, repeatL_one] at h
  exact h
set_option maxRecDepth 100000 in
set_option maxHeartbeats 2000000 in
theorem join_any (ls : List Ln.Line) (at0 : Option Addr) (g o n cap : Nat) (hn : ls.length = n) (hn2 : n ≤ 100000) (hz : ∀ x ∈ ls, x.s.length ≤ 1000000) (w : World) (hG : Glob w) (hL : LA w at0 g o ls) :
    Calls Tryd.prog 14 #[.slice at0 n cap] w fun e w' => e = .returned (.tuple #[.string ⟨(Ln.join ls).1.toArray⟩, .int .i64 (Ln.join ls).2]) ∧ Below w.heap.size w w' := by
  obtain ⟨J1, hJ1⟩ : ∃ J1 : ByteArray, (⟨(Ln.join ls).1.toArray⟩ : ByteArray) = J1 := ⟨_, rfl⟩
  obtain ⟨J2, hJ2⟩ : ∃ J2, (Ln.join ls).2 = J2 := ⟨_, rfl⟩
  rw [hJ1, hJ2]
  have HJ1 := Lib.hid hJ1
  have HJ2 := Lib.hid hJ2
  have HN := Lib.hid hn
  have HZ := Lib.hid hz
  have HG := Lib.hid hG
  have HL := Lib.hid hL
  clear hJ1 hJ2 hn hz hG hL
  go_enter Tryd.func14, Tryd.ntmps14
  go_wp2_with fail
  go_loopw [4, 5, 7, 13] (fun a b _ c wr => ∃ (i : Nat) (last sz : Int), a = .int .i64 last ∧ b = .int .i64 sz ∧ c = .int .i64 (i : Int) ∧ i ≤ n ∧ 0 ≤ last ∧ last ≤ 8000 ∧ 0 ≤ sz ∧ sz ≤ (i : Int) * 1100000 ∧ Ln.mays last (ls.drop i) = Ln.mays 0 ls ∧ (Ln.mays 0 ls = true → sz + Ln.size last (ls.drop i) = Ln.size 0 ls) ∧ Below w.heap.size w wr) (fun _ _ _ c _ => n - (Lib.intOf c).toNat)
  case atStart => exact ⟨0, 0, 0, rfl, rfl, rfl, Nat.zero_le _, by omega, by omega, by omega, by omega, by rw [List.drop_zero], fun _ => by rw [List.drop_zero]; omega, Below.refl _ _⟩
  case round =>
    obtain ⟨i, last, sz, rfl, rfl, rfl, hin, l0, l1, s0, s1, hm, hs, hb⟩ := hrel
    by_cases hi : i < n
    · have h1 : (i : Int) < (n : Int) := by omega
      obtain ⟨x, hx⟩ : ∃ x, ls[i]? = some x := ⟨_, List.getElem?_eq_getElem (by rw [HN.out]; exact hi)⟩
      have hd := drop_cons ls i x hx
      obtain ⟨ha, hg, hc⟩ := (HL.out.keep hb) (by intro e; rw [e] at hx; simp at hx)
      subst ha
      obtain ⟨c0, c1, c2⟩ := hc i x hx
      have hxz := HZ.out x (List.mem_of_getElem? hx)
      rw [hd] at hm hs
      obtain ⟨no, ind, s⟩ := x
      simp only at c0 c1 c2 hxz
      obtain ⟨S, hS⟩ : ∃ S : ByteArray, (⟨s.toArray⟩ : ByteArray) = S := ⟨_, rfl⟩
      have hSs : s = S.data.toList := by rw [← hS]
      rw [hS] at c2
      subst hSs
      have HHD := Lib.hid hd
      have HHM := Lib.hid hm
      have HHS := Lib.hid hs
      have HB := Lib.hid hb
      clear hd hm hs hc hx hb hS
      go_wp2_with fail
      have hb2 : Below w.heap.size w (wr.alloc (Obj.cells #[Value.int IntKind.i64 no, Value.int IntKind.i64 ind, Value.string S] 36)) := HB.out.alloc HB.out.size _
      have hxz2 : S.size ≤ 1000000 := by rw [← text_size]; exact hxz
      refine (may_any no ind last S hxz2 _ (HG.out.step hb2)).mono ?_
      rintro e w1 ⟨rfl, hb3⟩
      have hb4 : Below w.heap.size w w1 := hb2.trans (hb3.mono hb2.size)
      have hx1 := (hb3.block wr.heap.size (by simp)).trans (alloc_heap wr _)
      have d0 : w1.cell? ⟨wr.heap.size, 0, none⟩ = some (.int .i64 no) := cell_of hx1 0
      have d1 : w1.cell? ⟨wr.heap.size, 1, none⟩ = some (.int .i64 ind) := cell_of hx1 1
      have d2 : w1.cell? ⟨wr.heap.size, 2, none⟩ = some (.string S) := cell_of hx1 2
      have B4 := Lib.hid hb4
      clear hb2 hb3 hb4 hx1 c0 c1 c2
      obtain ⟨m, hmm⟩ : ∃ b, Ln.may last ⟨no, ind, S.data.toList⟩ = b := ⟨_, rfl⟩
      rw [hmm]
      have hms : (Ln.may last ⟨no, ind, S.data.toList⟩ && Ln.mays no (ls.drop (i + 1))) = Ln.mays 0 ls := HHM.out
      rw [hmm] at hms
      cases m with
      | false =>
        have hj : Ln.join ls = ([], 2) := by unfold Ln.join; rw [if_pos (by rw [← hms]; rfl)]
        have e1 := HJ1.out
        have e2 := HJ2.out
        rw [hj] at e1 e2
        obtain rfl := e1
        obtain rfl := e2
        clear hms hmm
        go_wp2_with fail
        go_ret2
        exact ⟨rfl, B4.out⟩
      | true =>
        obtain ⟨p0, p1, p2, p3, _⟩ := Ln.may_six hmm
        simp only at p0 p1 p2 p3
        rw [Bool.true_and] at hms
        have hss : Ln.mays 0 ls = true → sz + ((no - last + ind + (S.data.toList.length : Int)) + Ln.size no (ls.drop (i + 1))) = Ln.size 0 ls := HHS.out
        rw [text_size] at hss
        have HMS := Lib.hid hms
        have HSS := Lib.hid hss
        have v1 : IntKind.i64.wrap (no - last) = no - last := IntWalk.i64_in _ (by omega)
        have v2 : IntKind.i64.wrap (no - last + ind) = no - last + ind := IntWalk.i64_in _ (by omega)
        have v3 : IntKind.i64.wrap (no - last + ind + (S.size : Int)) = no - last + ind + (S.size : Int) := IntWalk.i64_in _ (by omega)
        have v4 : IntKind.i64.wrap (sz + (no - last + ind + (S.size : Int))) = sz + (no - last + ind + (S.size : Int)) := IntWalk.i64_in _ (by omega)
        have v5 : IntKind.i64.wrap ((i : Int) + 1) = (i : Int) + 1 := IntWalk.i64_in _ (by omega)
        clear hms hmm hss HHM HHS
        go_wp2_with fail
        go_roundw
        case rel =>
          refine ⟨i + 1, no, sz + (no - last + ind + (S.size : Int)), rfl, rfl, by simp, by omega, by omega, by omega, by omega, by omega, HMS.out, fun h => ?_, B4.out⟩
          have := HSS.out h
          omega
        case measure => simp [Lib.intOf]; omega
    · have h1 : ¬ (i : Int) < (n : Int) := by omega
      have hd : ls.drop i = [] := List.drop_eq_nil_of_le (by rw [HN.out]; omega)
      rw [hd] at hm hs
      have hmt : Ln.mays 0 ls = true := hm.symm
      have hst : sz = Ln.size 0 ls := by have := hs hmt; simpa [Ln.size] using this
      subst hst
      by_cases h8 : (8000 : Int) < Ln.size 0 ls
      · have hj : Ln.join ls = ([], 20) := by unfold Ln.join; rw [if_neg (by rw [hmt]; decide), if_pos h8]
        have e1 := HJ1.out
        have e2 := HJ2.out
        rw [hj] at e1 e2
        obtain rfl := e1
        obtain rfl := e2
        clear hd hm hs hmt hj
        generalize Ln.size 0 ls = SZ at h8
        go_wp2_with fail
        go_ret2
        exact ⟨rfl, hb⟩
      · have hj : Ln.join ls = (Ln.text 0 ls, 0) := by unfold Ln.join; rw [if_neg (by rw [hmt]; decide), if_neg h8]
        have e1 := HJ1.out
        have e2 := HJ2.out
        rw [hj] at e1 e2
        obtain rfl := e2
        have HT := Lib.hid e1
        clear e1
        have HH8 := Lib.hid h8
        have HMT := Lib.hid hmt
        have HB := Lib.hid hb
        have h8' : ¬ (8000 : Int) < Ln.size 0 ls := h8
        clear hd hm hs hmt hj hb
        generalize hSZ : Ln.size 0 ls = SZ at h8' s0 s1 HH8 ⊢
        have HSZ := Lib.hid hSZ
        clear hSZ h8 HJ1 HJ2
        have hbi : Lib.IsBuilderF 59 5 wr.heap.size wr.heap.size [] (wr.alloc (Obj.cells #[Value.pointer none, Value.slice none 0 0] 59)) := .inl ⟨Nat.le_refl _, .slice none 0 0, alloc_heap _ _, World.ownsRowF_of (World.ownsRow_nil _ _ _ _), by simp [Value.ownBlock]⟩
        have hB0 : Below w.heap.size w (wr.alloc (Obj.cells #[Value.pointer none, Value.slice none 0 0] 59)) := HB.out.alloc HB.out.size _
        have hb0 := HB.out.size
        go_wp2_with fail
        generalize wr.alloc (Obj.cells #[Value.pointer none, Value.slice none 0 0] 59) = W0 at hbi hB0 ⊢
        generalize wr.heap.size = b at hbi hb0 ⊢
        go_loopw [4, 10, 41] (fun a _ c wx => ∃ (j : Nat) (last' : Int) (dn : Ln.B), a = .int .i64 last' ∧ c = .int .i64 (j : Int) ∧ j ≤ n ∧ 0 ≤ last' ∧ Ln.mays last' (ls.drop j) = true ∧ dn ++ Ln.text last' (ls.drop j) = Ln.text 0 ls ∧ Lib.IsBuilderF 59 5 b b (Lib.byteCells dn) wx ∧ Below w.heap.size w wx) (fun _ _ c _ => n - (Lib.intOf c).toNat)
        case atStart => exact ⟨0, 0, [], rfl, rfl, Nat.zero_le _, Int.le_refl _, by rw [List.drop_zero]; exact HMT.out, by rw [List.drop_zero]; rfl, hbi, hB0⟩
        case round =>
          obtain ⟨j, la, dn, rfl, rfl, hjn, hl0, hm, ht, hbu, hbe⟩ := hrel
          have htl := Ln.text_length 0 ls HMT.out
          rw [HSZ.out] at htl
          have hdl : (dn.length : Int) ≤ SZ := by
            have e := congrArg List.length ht
            rw [List.length_append] at e
            omega
          by_cases hj : j < n
          · have h1 : (j : Int) < (n : Int) := by omega
            obtain ⟨x, hx⟩ : ∃ x, ls[j]? = some x := ⟨_, List.getElem?_eq_getElem (by rw [HN.out]; exact hj)⟩
            have hd := drop_cons ls j x hx
            obtain ⟨ha, hg, hc⟩ := (HL.out.keep hbe) (by intro e; rw [e] at hx; simp at hx)
            subst ha
            obtain ⟨c0, c1, c2⟩ := hc j x hx
            rw [hd] at hm ht
            obtain ⟨hm1, hm2⟩ := Bool.and_eq_true_iff.1 hm
            obtain ⟨p0, p1, p2, p3, _⟩ := Ln.may_six hm1
            obtain ⟨no, ind, s⟩ := x
            simp only at c0 c1 c2 p0 p1 p2 p3 hm2
            have hsl : (s.length : Int) ≤ SZ := by
              have e := congrArg List.length ht
              simp only [Ln.text, List.length_append, List.length_replicate, List.length_cons, List.length_nil] at e
              omega
            obtain ⟨S, hS⟩ : ∃ S : ByteArray, (⟨s.toArray⟩ : ByteArray) = S := ⟨_, rfl⟩
            have hSs : s = S.data.toList := by rw [← hS]
            rw [hS] at c2
            subst hSs
            rw [text_size] at hsl
            have ht2 : (dn ++ (List.replicate (no - la - 1).toNat 10 ++ List.replicate ind.toNat 32 ++ S.data.toList ++ [10])) ++ Ln.text no (ls.drop (j + 1)) = Ln.text 0 ls := by
              rw [← ht, List.append_assoc]
              rfl
            have hbq : b < wr.heap.size := hbu.elim (fun h => h.lt) (fun h => h.lt)
            have hbx := builder_below hbu ((Below.refl _ wr).alloc (Nat.le_refl _) (Obj.cells #[Value.int IntKind.i64 no, Value.int IntKind.i64 ind, Value.string S] 36))
            have hbe2 : Below w.heap.size w (wr.alloc (Obj.cells #[Value.int IntKind.i64 no, Value.int IntKind.i64 ind, Value.string S] 36)) := hbe.alloc hbe.size _
            have hq := alloc_heap wr (Obj.cells #[Value.int IntKind.i64 no, Value.int IntKind.i64 ind, Value.string S] 36)
            have HT2 := Lib.hid ht2
            have HM2 := Lib.hid hm2
            clear hd hm ht hc hx hS hbu hbe hm1 ht2 hm2 htl
            go_upto_region 17 with (fail)
            generalize wr.alloc (Obj.cells #[Value.int IntKind.i64 no, Value.int IntKind.i64 ind, Value.string S] 36) = W1 at hbx hbe2 hq ⊢
            generalize wr.heap.size = q at hq hbq ⊢
            clear c0 c1 c2
            obtain ⟨k1, hk1⟩ : ∃ k : Nat, (no - la - 1).toNat = k := ⟨_, rfl⟩
            obtain ⟨k2, hk2⟩ : ∃ k : Nat, ind.toNat = k := ⟨_, rfl⟩
            rw [hk1, hk2] at HT2
            obtain ⟨R1, hR1⟩ : ∃ R : ByteArray, (⟨(List.replicate k1 10).toArray⟩ : ByteArray) = R := ⟨_, rfl⟩
            obtain ⟨R2, hR2⟩ : ∃ R : ByteArray, (⟨(List.replicate k2 32).toArray⟩ : ByteArray) = R := ⟨_, rfl⟩
            have hz1 : R1.size = k1 := by rw [← hR1, mk_size, List.length_replicate]
            have hz2 : R2.size = k2 := by rw [← hR2, mk_size, List.length_replicate]
            have hl1 : R1.data.toList = List.replicate k1 10 := by rw [← hR1]
            have hl2 : R2.data.toList = List.replicate k2 32 := by rw [← hR2]
            have kk1 : no - la - 1 = (k1 : Int) := by omega
            have kk2 : ind = (k2 : Int) := by omega
            obtain ⟨rv, Ok, f1, f2, e1, e2, hrep⟩ : ∃ (rv : UInt8 → Int → ByteArray) (Ok : UInt8 → Int → Prop), Ok 10 (no - la - 1) ∧ Ok 32 ind ∧ rv 10 (no - la - 1) = R1 ∧ rv 32 ind = R2 ∧ ∀ (c : UInt8) (ki : Int), Ok c ki → ∀ wz, Calls Tryd.prog 27 #[.string ⟨#[c]⟩, .int .i64 ki] wz fun e w' => e = .returned (.string (rv c ki)) ∧ Below wz.heap.size wz w' := by
              refine ⟨fun c ki => ⟨(List.replicate ki.toNat c).toArray⟩, fun c ki => ∃ k : Nat, ki = (k : Int) ∧ k ≤ 100000, ⟨k1, kk1, by omega⟩, ⟨k2, kk2, by omega⟩, by simp only [hk1]; exact hR1, by simp only [hk2]; exact hR2, ?_⟩
              rintro c ki ⟨k, rfl, h2⟩ wz
              exact rep_any c k _ rfl h2 wz
            obtain ⟨LN, hLN⟩ : ∃ R : ByteArray, (((R1 ++ R2) ++ S) ++ (⟨#[10]⟩ : ByteArray)) = R := ⟨_, rfl⟩
            have hLl : LN.data.toList = List.replicate k1 10 ++ List.replicate k2 32 ++ S.data.toList ++ [10] := by
              rw [← hLN, ← hl1, ← hl2]
              simp
            have hLz : LN.size = k1 + k2 + S.size + 1 := by
              rw [← text_size, hLl, ← text_size]
              simp
              omega
            have hwr : ∀ wz, Lib.IsBuilderF 59 5 b b (Lib.byteCells dn) wz → Calls Tryd.prog 26 #[.pointer (some ⟨b, 0, none⟩), .string (((rv 10 (no - la - 1) ++ rv 32 ind) ++ S) ++ ⟨#[10]⟩)] wz fun e w' => e = .returned (.tuple #[.int .i64 LN.size, .nilIface]) ∧ Lib.IsBuilderF 59 5 b b (Lib.byteCells (dn ++ LN.data.toList)) w' ∧ Below b wz w' ∧ Lib.OthersKept 5 (some b) wz w' := by
              intro wz hz
              have hlt : b < wz.heap.size := hz.elim (fun h => h.lt) (fun h => h.lt)
              rw [e1, e2, hLN]
              refine (write_any b b _ LN wz hz (by rw [Lib.byteCells_length]; omega) (Nat.le_of_lt hlt)).mono ?_
              rintro e w' ⟨rfl, h1, h2, h3⟩
              refine ⟨rfl, ?_, h2, h3⟩
              rw [Lib.byteCells_append, ← Lib.strCells_eq]
              exact .inr h1
            have v1 : IntKind.i64.wrap (no - la) = no - la := IntWalk.i64_in _ (by omega)
            have v2 : IntKind.i64.wrap (no - la - 1) = no - la - 1 := IntWalk.i64_in _ (by omega)
            have x0 : W1.cell? ⟨q, 0, none⟩ = some (.int .i64 no) := cell_of hq 0
            have x1 : W1.cell? ⟨q, 1, none⟩ = some (.int .i64 ind) := cell_of hq 1
            have x2 : W1.cell? ⟨q, 2, none⟩ = some (.string S) := cell_of hq 2
            have HRG := Lib.hid hrep
            have HW := Lib.hid hwr
            have HLL := Lib.hid hLl
            have HLN := Lib.hid hLN
            have HBX := Lib.hid hbx
            have HBE := Lib.hid hbe2
            have HQ := Lib.hid hq
            have HQD := Lib.hid (show W1.drew.heap[q]? = some (.cells #[Value.int IntKind.i64 no, Value.int IntKind.i64 ind, Value.string S] 36 (0, 0)) from hq)
            have HBD := Lib.hid (builder_below hbx ((Below.refl W1.heap.size W1).drew))
            have HED := Lib.hid (hbe2.drew)
            have b1 : (rv 10 (no - la - 1)).size + (rv 32 ind).size ≤ 9223372036854775807 := by rw [e1, e2, hz1, hz2]; omega
            have b2 : (rv 10 (no - la - 1)).size + (rv 32 ind).size + S.size ≤ 9223372036854775807 := by rw [e1, e2, hz1, hz2]; omega
            have b3 : (rv 10 (no - la - 1)).size + (rv 32 ind).size + S.size + 1 ≤ 9223372036854775807 := by rw [e1, e2, hz1, hz2]; omega
            clear e1 e2 kk1 kk2 hz1 hz2 hrep hwr hLl hLN hbx hbe2 hq hR1 hR2 hl1 hl2 hk1 hk2 hLz
            go_cut [63] from 45 (fun vz wz => vz = undef ∧ Lib.IsBuilderF 59 5 b b (Lib.byteCells (dn ++ LN.data.toList)) wz ∧ wz.heap[q]? = some (.cells #[Value.int IntKind.i64 no, Value.int IntKind.i64 ind, Value.string S] 36 (0, 0)) ∧ Below w.heap.size w wz)
            case first =>
              go_region_held3 (fun w' => w'.cell? ⟨q, 0, none⟩ = some (.int .i64 no) ∧ w'.cell? ⟨q, 1, none⟩ = some (.int .i64 ind) ∧ w'.cell? ⟨q, 2, none⟩ = some (.string S)) (first | (with_reducible exact ⟨z0, z1, z2⟩) | (with_reducible exact ⟨a0, a1, a2⟩) | (with_reducible exact ⟨y0, y1, y2⟩) | go_keep) (first
                | (go_at_call 27; refine (HRG.out _ _ ?_ _).mono ?_; (with_reducible exact f1); rintro e w2 ⟨rfl, hb2⟩; have q2 := (hb2.block q (lt_of_heap HQD.out)).trans HQD.out; have y0 : w2.cell? ⟨q, 0, none⟩ = some (.int .i64 no) := cell_of q2 0; have y1 : w2.cell? ⟨q, 1, none⟩ = some (.int .i64 ind) := cell_of q2 1; have y2 : w2.cell? ⟨q, 2, none⟩ = some (.string S) := cell_of q2 2; have B2 := Lib.hid (HED.out.trans (hb2.mono HED.out.size)); have U2 := Lib.hid (builder_below HBD.out hb2); have Q2 := Lib.hid q2; clear hb2 q2)
                | (go_at_call 27; refine (HRG.out _ _ ?_ _).mono ?_; (with_reducible exact f2); rintro e w3 ⟨rfl, hb3⟩; have q3 := (hb3.block q (lt_of_heap Q2.out)).trans Q2.out; have a0 : w3.cell? ⟨q, 0, none⟩ = some (.int .i64 no) := cell_of q3 0; have a1 : w3.cell? ⟨q, 1, none⟩ = some (.int .i64 ind) := cell_of q3 1; have a2 : w3.cell? ⟨q, 2, none⟩ = some (.string S) := cell_of q3 2; have B3 := Lib.hid (B2.out.trans (hb3.mono B2.out.size)); have U3 := Lib.hid (builder_below U2.out hb3); have Q3 := Lib.hid q3; clear hb3 q3)
                | (go_at_call 26; refine (HW.out _ U3.out).mono ?_; rintro e w4 ⟨rfl, hu4, hb4, hk4⟩; have q4 := hk4 q _ Q3.out (by simp; omega) (by intro c fz e; cases e); have z0 : w4.cell? ⟨q, 0, none⟩ = some (.int .i64 no) := cell_of q4 0; have z1 : w4.cell? ⟨q, 1, none⟩ = some (.int .i64 ind) := cell_of q4 1; have z2 : w4.cell? ⟨q, 2, none⟩ = some (.string S) := cell_of q4 2; have B4 := Lib.hid (B3.out.trans (hb4.mono hb0)); have U4 := Lib.hid hu4; have Q4 := Lib.hid q4; clear hu4 hb4 hk4 q4))
              go_wp2_with fail
              go_meet
              exact ⟨rfl, U4.out, Q4.out, B4.out⟩
            case rest =>
              obtain ⟨rfl, hu5, hq5, hb5⟩ := hcut
              have d0 : wc.cell? ⟨q, 0, none⟩ = some (.int .i64 no) := cell_of hq5 0
              have v3 : IntKind.i64.wrap ((j : Int) + 1) = (j : Int) + 1 := IntWalk.i64_in _ (by omega)
              have U5 := Lib.hid hu5
              have B5 := Lib.hid hb5
              clear hu5 hb5 hq5
              go_wp2_with fail
              go_roundw
              case rel => exact ⟨j + 1, no, dn ++ LN.data.toList, rfl, by simp, by omega, by omega, HM2.out, by rw [HLL.out]; exact HT2.out, U5.out, B5.out⟩
              case measure => simp [Lib.intOf]; omega
          · have h1 : ¬ (j : Int) < (n : Int) := by omega
            have hd : ls.drop j = [] := List.drop_eq_nil_of_le (by rw [HN.out]; omega)
            rw [hd] at ht
            have hdn : dn = Ln.text 0 ls := by rw [← ht]; exact (List.append_nil dn).symm
            have hlt : b < wr.heap.size := hbu.elim (fun h => h.lt) (fun h => h.lt)
            have hstr := Tryd.Builder_String_any_k b b dn wr hbu (Nat.le_of_lt hlt)
            rw [hdn, HT.out] at hstr
            have HS := Lib.hid hstr
            have HBB := Lib.hid hbe
            clear hbu hd hm ht hstr hbe
            go_wp2_with fail
            refine HS.out.mono ?_
            rintro e w6 ⟨rfl, _, hb6, _⟩
            have B6 := Lib.hid (HBB.out.trans (hb6.mono hb0))
            clear hb6
            go_wp2_with fail
            go_ret2
            exact ⟨rfl, B6.out⟩
end Go.Proofs.YtofikmdfiimbbaaDoor
