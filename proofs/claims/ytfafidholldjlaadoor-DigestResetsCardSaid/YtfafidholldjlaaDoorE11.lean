/- Sum of a hasher. -/
import Derived.Test.YtfafidholldjlaaDoorE10
import Derived.Deep.RegionHeld3
set_option linter.unusedVariables false
set_option linter.unusedSimpArgs false
namespace Go.Proofs.YtfafidholldjlaaDoor
open Go.RowKit
/-- A message's sum, as bytes. -/
def shaBytes (m : List UInt8) : ByteArray := ⟨(stBytes (Sha.sumOf m)).toArray⟩
set_option maxRecDepth 100000 in
set_option maxHeartbeats 4000000 in
theorem hsum_any {B : Nat} {aw ab : Addr} {w : World} (hG : Glob B aw ab w) (h : Nat) (hBh : B ≤ h) (m : List UInt8) (hm : HasherAt w h m) (hn : m.length ≤ 100000) :
    Calls Tryd.prog 44 #[.pointer (some ⟨h, 0, none⟩)] w fun e w' => e = .returned (.string (shaBytes m)) ∧ HasherAt w' h m ∧ Far (· = h) w w' := by
  obtain ⟨v, hr, hv⟩ := hm
  obtain ⟨sp, cap, rfl, hp⟩ := hv
  obtain ⟨S, hS⟩ : ∃ S, Sha.St.first.after m (m.length / 64) = S := ⟨_, rfl⟩
  have hok : S.ok := by rw [← hS]; exact Sha.St.after_ok first_ok _ _
  rw [hS] at hr
  obtain ⟨rl, hrl⟩ : ∃ x, (m.drop (64 * (m.length / 64))).length = x := ⟨_, rfl⟩
  have hr1 : w.heap[h]? = some (.cells #[.slice sp (m.drop (64 * (m.length / 64))).length cap, .int .i64 S.a, .int .i64 S.b, .int .i64 S.c, .int .i64 S.d, .int .i64 S.e, .int .i64 S.f, .int .i64 S.g, .int .i64 S.h, .int .i64 ((m.length : Nat) : Int)] 93 (0, 0)) := hr
  have hmf : ∀ (fn : Fn) (first cap : Array Value) (w : World), (Instr.makeFunc fn first cap).run Tryd.prog w = .ok (.func fn first cap) w := fun _ _ _ _ => rfl
  have hl := lt_of_heap hr
  have z0 : w.cell? ⟨h, 0, none⟩ = some (.slice sp (m.drop (64 * (m.length / 64))).length cap) := cell_of hr1 0
  have z1 : w.cell? ⟨h, 1, none⟩ = some (.int .i64 S.a) := cell_of hr1 1
  have z2 : w.cell? ⟨h, 2, none⟩ = some (.int .i64 S.b) := cell_of hr1 2
  have z3 : w.cell? ⟨h, 3, none⟩ = some (.int .i64 S.c) := cell_of hr1 3
  have z4 : w.cell? ⟨h, 4, none⟩ = some (.int .i64 S.d) := cell_of hr1 4
  have z5 : w.cell? ⟨h, 5, none⟩ = some (.int .i64 S.e) := cell_of hr1 5
  have z6 : w.cell? ⟨h, 6, none⟩ = some (.int .i64 S.f) := cell_of hr1 6
  have z7 : w.cell? ⟨h, 7, none⟩ = some (.int .i64 S.g) := cell_of hr1 7
  have z8 : w.cell? ⟨h, 8, none⟩ = some (.int .i64 S.h) := cell_of hr1 8
  have z9 : w.cell? ⟨h, 9, none⟩ = some (.int .i64 ((m.length : Nat) : Int)) := cell_of hr1 9
  have HG := Lib.hid hG
  have HR := Lib.hid hr
  have HV : Hid (Rest w h (.slice sp (m.drop (64 * (m.length / 64))).length cap) (m.drop (64 * (m.length / 64)))) := Lib.hid ⟨sp, cap, rfl, hp⟩
  have HS := Lib.hid hS
  have HOK := Lib.hid hok
  clear hG hr hp hS hok hr1 hrl
  obtain ⟨bs, hbs⟩ : ∃ bs, shaBytes m = bs := ⟨_, rfl⟩
  rw [hbs]
  have HBS := Lib.hid hbs
  clear hbs
  go_enter_defers Tryd.func44, Tryd.ntmps44
  go_wp2_with fail
  generalize hW1 : w.alloc (.cells #[.pointer (some ⟨h, 0, none⟩)] 46) = W1
  have hbx : W1.heap[w.heap.size]? = some (.cells #[.pointer (some ⟨h, 0, none⟩)] 46 (0, 0)) := by rw [← hW1]; exact alloc_heap_at _ _ _ rfl
  have hrow1 : W1.heap[h]? = some (.cells (hrow (.slice sp (m.drop (64 * (m.length / 64))).length cap) S (m.length : Nat)) 93 (0, 0)) := by rw [← hW1]; exact alloc_heap_old _ HR.out
  have hf1 : Far (· = h) w W1 := by rw [← hW1]; exact (Far.refl _ _).alloc _
  have hg1 : Glob B aw ab W1 := HG.out.below (hf1.to_below HG.out.size (by omega))
  have cb : W1.cell? ⟨w.heap.size, 0, none⟩ = some (.pointer (some ⟨h, 0, none⟩)) := cell_of hbx 0
  have c9 : W1.cell? ⟨h, 9, none⟩ = some (.int .i64 ((m.length : Nat) : Int)) := cell_of hrow1 9
  have hrest1 := HV.out.far hf1
  have hEl : (⟨(Sha.endOf m.length).toArray⟩ : ByteArray).size = (Sha.endOf m.length).length := by simp [ByteArray.size]
  have hEs : (Sha.endOf m.length).length ≤ 72 := by rw [Sha.endOf_length]; unfold Sha.zeros; omega
  have heat : ∀ (W2 : World), Below W1.heap.size W1 W2 → Calls Tryd.prog 74 #[.pointer (some ⟨h, 0, none⟩), .string ⟨(Sha.endOf m.length).toArray⟩] W2 fun e w3 => e = .returned (.tuple #[]) ∧ ∃ v', w3.heap[h]? = some (.cells (hrow v' (Sha.sumOf m) (m.length : Nat)) 93 (0, 0)) ∧ w3.heap[w.heap.size]? = some (.cells #[.pointer (some ⟨h, 0, none⟩)] 46 (0, 0)) ∧ Far (· = h) W1 w3 := by
    intro W2 hb
    have hx := eat_any (hg1.below (hb.mono hg1.size)) h hBh _ S HOK.out _ _ ⟨(Sha.endOf m.length).toArray⟩ ((hb.block h (lt_of_heap hrow1)).trans hrow1) (hrest1.far (Far.of_below hb _)) (by rw [rest_len]; omega) (by rw [hEl]; omega)
    refine hx.mono ?_
    rintro e w3 ⟨he, v', hr3, _, hf3⟩
    refine ⟨he, v', ?_, hf3.heap ((hb.block _ (lt_of_heap hbx)).trans hbx) (by omega), (Far.of_below hb _).trans hf3⟩
    have hst := taken m (Sha.endOf m.length)
    rw [HS.out] at hst
    rw [rest_len, hEl] at hr3
    rw [show (⟨(Sha.endOf m.length).toArray⟩ : ByteArray).data.toList = Sha.endOf m.length from rfl, hst] at hr3
    exact hr3
  have HE := Lib.hid heat
  have HBX := Lib.hid hbx
  have HROW1 := Lib.hid hrow1
  have HF1 := Lib.hid hf1
  have HG1 := Lib.hid hg1
  clear hW1 hbx hrow1 hf1 hg1 hrest1 hEl hEs heat z0 z1 z2 z3 z4 z5 z6 z7 z8 z9
  go_region_held3 (fun w' => w'.cell? ⟨w.heap.size, 0, none⟩ = some (.pointer (some ⟨h, 0, none⟩)) ∧ w'.cell? ⟨h, 9, none⟩ = some (.int .i64 ((m.length : Nat) : Int))) (first | (with_reducible exact ⟨cb3, c93⟩) | (with_reducible exact ⟨cb2, c92⟩) | go_keep)
    (first
      | (go_at_call 72; refine (end_any m.length hn _).mono ?_; rintro e w2 ⟨rfl, hb2⟩; have cb2 : w2.cell? ⟨w.heap.size, 0, none⟩ = some (.pointer (some ⟨h, 0, none⟩)) := cell_of ((hb2.block _ (lt_of_heap HBX.out)).trans HBX.out) 0; have c92 : w2.cell? ⟨h, 9, none⟩ = some (.int .i64 ((m.length : Nat) : Int)) := cell_of ((hb2.block _ (lt_of_heap HROW1.out)).trans HROW1.out) 9; have HB2 : Hid (Below W1.heap.size W1 w2) := Lib.hid (Below.trans (Below.refl _ _).drew hb2))
      | (go_at_call 74; refine (HE.out _ HB2.out).mono ?_; rintro e w3 ⟨rfl, v', hr3, hbx3, hf3⟩; have cb3 : w3.cell? ⟨w.heap.size, 0, none⟩ = some (.pointer (some ⟨h, 0, none⟩)) := cell_of hbx3 0; have c93 : w3.cell? ⟨h, 9, none⟩ = some (.int .i64 ((m.length : Nat) : Int)) := cell_of hr3 9; have HR3 := Lib.hid hr3; have HBX3 := Lib.hid hbx3; have HF3 := Lib.hid hf3; clear hr3 hbx3 hf3))
  obtain ⟨T, hT⟩ : ∃ T, Sha.sumOf m = T := ⟨_, rfl⟩
  have hTok : T.ok := by rw [← hT]; exact Sha.St.after_ok first_ok _ _
  have HT := Lib.hid hT
  have hr3 := HR3.out
  rw [hT] at hr3
  clear hT HR3
  have hr3' : w3.heap[h]? = some (.cells #[v', .int .i64 T.a, .int .i64 T.b, .int .i64 T.c, .int .i64 T.d, .int .i64 T.e, .int .i64 T.f, .int .i64 T.g, .int .i64 T.h, .int .i64 ((m.length : Nat) : Int)] 93 (0, 0)) := hr3
  have hgl3 := HG1.out.below (HF3.out.to_below HG1.out.size (by omega))
  have y0 : w3.cell? ⟨h, 0, none⟩ = some (v') := cell_of hr3' 0
  have y1 : w3.cell? ⟨h, 1, none⟩ = some (.int .i64 T.a) := cell_of hr3' 1
  have y2 : w3.cell? ⟨h, 2, none⟩ = some (.int .i64 T.b) := cell_of hr3' 2
  have y3 : w3.cell? ⟨h, 3, none⟩ = some (.int .i64 T.c) := cell_of hr3' 3
  have y4 : w3.cell? ⟨h, 4, none⟩ = some (.int .i64 T.d) := cell_of hr3' 4
  have y5 : w3.cell? ⟨h, 5, none⟩ = some (.int .i64 T.e) := cell_of hr3' 5
  have y6 : w3.cell? ⟨h, 6, none⟩ = some (.int .i64 T.f) := cell_of hr3' 6
  have y7 : w3.cell? ⟨h, 7, none⟩ = some (.int .i64 T.g) := cell_of hr3' 7
  have y8 : w3.cell? ⟨h, 8, none⟩ = some (.int .i64 T.h) := cell_of hr3' 8
  have y9 : w3.cell? ⟨h, 9, none⟩ = some (.int .i64 ((m.length : Nat) : Int)) := cell_of hr3' 9
  have HR3 := Lib.hid hr3
  have HGL3 := Lib.hid hgl3
  have HTOK := Lib.hid hTok
  clear hr3 hr3' hgl3 hTok cb2 c92 c93
  go_wp2_with fail
  refine (bytes_ok T HTOK.out HGL3.out).mono ?_
  rintro e w4 ⟨rfl, hb4⟩
  have hr4 := (hb4.block h (lt_of_heap HR3.out)).trans HR3.out
  have hbx4 := (hb4.block _ (lt_of_heap HBX3.out)).trans HBX3.out
  have hf4 : Far (· = h) w w4 := (HF1.out.trans HF3.out).below hb4
  have HR4 := Lib.hid hr4
  have HBX4 := Lib.hid hbx4
  have HF4 := Lib.hid hf4
  have hsb : (⟨(stBytes T).toArray⟩ : ByteArray) = bs := by rw [← HBS.out]; unfold shaBytes; rw [HT.out]
  rw [hsb]
  clear hr4 hbx4 hf4 hsb y0 y1 y2 y3 y4 y5 y6 y7 y8 y9 hb4
  go_wp2_with fail
  refine leaves_cons (f := 75) (args := #[.agg (hrow (.slice sp (m.length - 64 * (m.length / 64)) cap) S ((m.length : Nat) : Int)), .pointer (some ⟨w.heap.size, 0, none⟩)]) (by simp) (by simp [go_sem, hrow]) ?_
  refine (restore_any h w.heap.size sp (m.length - 64 * (m.length / 64)) cap _ S _ ((m.length : Nat) : Int) _ .returning _ HBX4.out HR4.out).mono ?_
  rintro e u' w'' ⟨rfl, rfl, hr5, hf5⟩
  have hfar := HF4.out.trans hf5
  have hrs := HV.out.far hfar
  rw [List.length_drop] at hrs
  exact ⟨_, results_tmp rfl _ _ _, rfl, ⟨_, by rw [HS.out]; exact hr5, hrs⟩, hfar⟩
end Go.Proofs.YtfafidholldjlaaDoor
