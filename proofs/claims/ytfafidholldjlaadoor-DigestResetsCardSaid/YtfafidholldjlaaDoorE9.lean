/- Write of package digest. -/
import Derived.Test.YtfafidholldjlaaDoorE6
import Derived.Test.YtfafidholldjlaaDoorE8
set_option linter.unusedVariables false
set_option linter.unusedSimpArgs false
namespace Go.Proofs.YtfafidholldjlaaDoor
open Go.RowKit
/-- A hasher that has taken a message in. -/
def HasherAt (W : World) (h : Nat) (m : List UInt8) : Prop :=
  ∃ v, W.heap[h]? = some (.cells (hrow v (Sha.St.first.after m (m.length / 64)) (m.length : Nat)) 93 (0, 0)) ∧ Rest W h v (m.drop (64 * (m.length / 64)))
theorem HasherAt.far {W W' : World} {h : Nat} {m : List UInt8} (hm : HasherAt W h m) {D : Nat → Prop} (hf : Far D W W') (hD : ∀ k, ¬ D k) : HasherAt W' h m := by
  obtain ⟨v, hr, hv⟩ := hm
  exact ⟨v, hf.heap hr (hD h), hv.far (hf.mono (fun k _ e => (hD k e).elim))⟩
theorem HasherAt.lt {W : World} {h : Nat} {m : List UInt8} (hm : HasherAt W h m) : h < W.heap.size := lt_of_heap hm.choose_spec.1
theorem hasher_new {W : World} {h : Nat} (hr : W.heap[h]? = some (.cells (hrow (.slice none 0 0) Sha.St.first 0) 93 (0, 0))) : HasherAt W h [] :=
  ⟨_, hr, none, 0, rfl, fun h0 => absurd h0 (Nat.lt_irrefl 0)⟩
theorem rest_len (m : List UInt8) : (m.drop (64 * (m.length / 64))).length = m.length % 64 := by rw [List.length_drop]; omega
theorem taken (m q : List UInt8) : (Sha.St.first.after m (m.length / 64)).after (m.drop (64 * (m.length / 64)) ++ q) ((m.length % 64 + q.length) / 64) = Sha.St.first.after (m ++ q) ((m ++ q).length / 64) := by
  rw [Sha.St.after_append _ _ _ _ _ (by omega)]
  congr 1
  rw [List.length_append]
  omega
theorem taken_rest (m q : List UInt8) : (m.drop (64 * (m.length / 64)) ++ q).drop (64 * ((m.length % 64 + q.length) / 64)) = (m ++ q).drop (64 * ((m ++ q).length / 64)) := by
  have e : (m ++ q).length / 64 = m.length / 64 + (m.length % 64 + q.length) / 64 := by rw [List.length_append]; omega
  have e2 : (m ++ q).drop (64 * (m.length / 64)) = m.drop (64 * (m.length / 64)) ++ q := List.drop_append_of_le_length (by omega)
  rw [e, Nat.mul_add, ← List.drop_drop, e2]
set_option maxRecDepth 100000 in
theorem write_ok {B : Nat} {aw ab : Addr} {w : World} (hG : Glob B aw ab w) (h : Nat) (hBh : B ≤ h) (m : List UInt8) (q : ByteArray) (hm : HasherAt w h m) (hn : m.length + q.size ≤ 100000) :
    Calls Tryd.prog 43 #[.pointer (some ⟨h, 0, none⟩), .string q] w fun e w' => e = .returned (.int .i64 0) ∧ HasherAt w' h (m ++ q.data.toList) ∧ Far (· = h) w w' := by
  obtain ⟨v, hr, hv⟩ := hm
  obtain ⟨S, hS⟩ : ∃ S, Sha.St.first.after m (m.length / 64) = S := ⟨_, rfl⟩
  have hok : S.ok := by rw [← hS]; exact Sha.St.after_ok first_ok _ _
  rw [hS] at hr
  have c9 : w.cell? ⟨h, 9, none⟩ = some (.int .i64 ((m.length : Nat) : Int)) := cell_of hr 9
  have f9 := frozen_of hr 9
  have h0 : (0 : Int) ≤ (m.length : Int) + (q.size : Int) := by omega
  have h1 : (m.length : Int) + (q.size : Int) ≤ 100000 := by omega
  have h2 : (m.length : Int) ≤ 100000 := by omega
  have h3 : (q.size : Int) ≤ 100000 := by omega
  have HG := Lib.hid hG
  have HR := Lib.hid hr
  have HV := Lib.hid hv
  have HS := Lib.hid hS
  have HOK := Lib.hid hok
  have HN := Lib.hid hn
  clear hG hr hv hS hok hn
  go_enter Tryd.func43, Tryd.ntmps43
  go_wp2_with fail
  refine (check_ok _ h0 h1 _).mono ?_
  rintro e w1 ⟨rfl, rfl⟩
  have hlh : h < w.heap.size := lt_of_heap HR.out
  have hrow1 : (w.setCell ⟨h, 9, none⟩ (.int .i64 ((m.length : Int) + (q.size : Int)))).heap[h]? = some (.cells (hrow v S ((m.length : Int) + (q.size : Int))) 93 (0, 0)) := setCell_heap HR.out 9 _
  have hf1 : Far (· = h) w (w.setCell ⟨h, 9, none⟩ (.int .i64 ((m.length : Int) + (q.size : Int)))) := Far.setCell (D := (· = h)) (p := ⟨h, 9, none⟩) (Far.refl _ _) (fun _ => rfl) _
  have hg1 := HG.out.below (hf1.to_below HG.out.size (by omega))
  have hrl := rest_len m
  have heat := eat_any hg1 h hBh v S HOK.out ((m.length : Int) + (q.size : Int)) (m.drop (64 * (m.length / 64))) q hrow1 (HV.out.far hf1) (by have := HN.out; omega) (by have := HN.out; omega)
  rw [hrl] at heat
  have HE := Lib.hid heat
  have HF1 := Lib.hid hf1
  clear hrow1 hf1 hg1 heat
  go_wp2_with fail
  refine HE.out.mono ?_
  rintro e w2 ⟨rfl, v', hr2, hv2, hf2⟩
  have hst := taken m q.data.toList
  have hrs := taken_rest m q.data.toList
  have hql : q.data.toList.length = q.size := rfl
  rw [hql, HS.out] at hst
  rw [hql] at hrs
  rw [hst] at hr2
  rw [hrs] at hv2
  have hlen : ((m.length : Int) + (q.size : Int)) = (((m ++ q.data.toList).length : Nat) : Int) := by rw [List.length_append, hql]; omega
  rw [hlen] at hr2
  have HR2 := Lib.hid hr2
  have HV2 := Lib.hid hv2
  have HF2 := Lib.hid (HF1.out.trans hf2)
  clear hr2 hv2 hf2 hst hrs hlen hrl
  go_wp2_with fail
  go_ret
  exact ⟨rfl, ⟨v', HR2.out, HV2.out⟩, HF2.out⟩
end Go.Proofs.YtfafidholldjlaaDoor
