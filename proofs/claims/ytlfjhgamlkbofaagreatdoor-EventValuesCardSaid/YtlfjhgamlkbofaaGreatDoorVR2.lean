/-
  Contracts of the functions that the laws of this seat reach, and plain laws, part 15 of 15; no condition.
-/
import Derived.Test.YtlfjhgamlkbofaaGreatDoorVR1
import Derived.Test.YtlfjhgamlkbofaaGreatDoorVE4
import Derived.Test.YtlfjhgamlkbofaaGreatDoorVE5
import Derived.Test.YtlfjhgamlkbofaaGreatDoorVC
import Derived.Test.YtlfjhgamlkbofaaGreatDoorVE6
import Derived.Test.YtlfjhgamlkbofaaGreatDoorRows
import Derived.Test.YtlfjhgamlkbofaaGreatDoorVJ3
import Derived.OpenShut
import Derived.ChangeSame
import Derived.SizedLaws
import Derived.Deep.Fields
import Derived.Deep.Slices
set_option linter.unusedVariables false
set_option linter.unusedSimpArgs false
set_option linter.unnecessarySimpa false
set_option maxRecDepth 100000
set_option maxHeartbeats 16000000
namespace Go.Proofs.YtlfjhgamlkbofaaGreatDoor
open Go.RowKit Js
structure RV (w v:World) (ec:Array Value):Prop where
 m:Mod [] w v
 e:Blk v w.heap.size 38 ec
 r:Blk v (w.heap.size+1) 43 zcs
theorem RV.new {w v v':World} {ec:Array Value} (h:RV w v ec) (m:Mod [] v v'):RV w v' ec:=⟨h.m.trans m (by simp),m.blk h.e (by simp),m.blk h.r (by simp)⟩
theorem ev_frame {v:World} {g n c:Nat} {A:Option Addr} {e:Ev} {ec:Array Value} (h:Blk v g 38 ec) (hec:ecs A n c e=ec):v.rangeAt g 6 (fcs A n c e.f).toList:=by
 subst hec;intro j u hj;rw[h.cell]
 match j,hj with
 | 0,hj=>exact hj
 | 1,hj=>exact hj
 | 2,hj=>exact hj
 | 3,hj=>exact hj
 | 4,hj=>exact hj
 | 5,hj=>exact hj
 | 6,hj=>exact hj
 | 7,hj=>exact hj
 | j+8,hj=>cases hj
theorem vals_plain {w:World} {base:Nat} {P Q:Nat→Prop} {l:List JN} (h:∀x∈l,∃k i t,x=.mk k i t none 0 [] none 0 []):∀x∈l,JIn w x∧∀g∈JFoot x,base≤g∧g < w.heap.size∧P g∧Q g:=by intro x hx;obtain⟨k,i,t,rfl⟩:=h x hx;exact⟨JIn.plain _ _ _ _,fun g hg=>by simp[JFoot,JFoots]at hg⟩
theorem r7value_any (w : World) (A : Option Addr) (c : Nat) (e : Ev) (hr : Rngs w A e.f.list.length e.f.list) : Calls Tryz.prog 28 #[evval A e.f.list.length c e] w (ValPost e w) := by
  obtain ⟨ec, hec⟩ : ∃ ec, ecs A e.f.list.length c e = ec := ⟨_, rfl⟩;have HEc := hide hec;have HEz : Hid (ec.size = 14) := hide (by rw [← hec]; rfl);obtain ⟨w1, hw1⟩ : ∃ w1, (w.alloc (.cells ec 38)).alloc (.cells zcs 43) = w1 := ⟨_, rfl⟩;have H1 : Hid (RV w w1 ec) := hide (by rw [← hw1];refine ⟨((Mod.refl [] w).alloc _).alloc _, (Blk.new w 38 ec).alloc _, ?_⟩;have := Blk.new (w.alloc (.cells ec 38)) 43 zcs;rw [World.size_alloc] at this;exact this);have HRgw := hide (fun w' (m : Mod [] w w') => hr.new m);obtain ⟨v, hv⟩ : ∃ v, emay e = v := ⟨_, rfl⟩;have hmy := r7may_any w1 A e.f.list.length c e (hr.new H1.out.m);have HMv := hide hv;unfold evval at hmy ⊢;rw [hec, hv] at hmy;rw [hec];have HMy := hide hmy;have XL1 := hide H1.out.e.range;clear hr hv hmy hec;go_enter Tryz.func28, Tryz.ntmps28;go_upto_region 1 with fail;rw [show (w.alloc (.cells ec 38)).alloc (.cells #[.int .i64 0, .int .i64 0, .string ⟨#[]⟩, .slice none 0 0, .slice none 0 0] 43) = w1 from hw1];clear hw1;go_wp2_with (refine wpList_load_mid rfl 38 _ rfl w.heap.size 0 rfl ec.toList _ XL1.out rfl rfl (by rw [Array.length_toList, HEz.out]; kernel_rfl) ?_);refine HMy.out.mono ?_;rintro e0 w2 ⟨rfl, m2⟩;have H2 := hide (H1.out.new m2);clear m2 HMy XL1 H1;cases v with
  | false =>
    go_wp2_with (refine wpList_store_whole rfl 43 _ _ rfl rfl (w.heap.size + 1) 43 zcs zcs H2.out.r rfl rfl (by kernel_rfl) rfl (by kernel_rfl) ?_; intro w9 m9 b9 s9; have HM9 := hide (H2.out.m.trans m9 (by intro x hx; right; simp at hx; omega)); have HB9 := hide b9; clear m9 b9 s9);refine bodyPost_ret (results_cell_tmp_row rfl _ _ (w.heap.size + 1) 43 zcs _ rfl HB9.out Tryz.underlying43 rfl (by kernel_rfl)) rfl ?_;refine ⟨JN.mk 0 0 ⟨#[]⟩ none 0 [] none 0 [], ?_, ?_, JIn.plain _ _ _ _, HM9.out⟩
    · rw [HMv.out]; rfl
    · rw [HMv.out]; rfl
  | true =>
    have HO := hide (emay_iff.1 HMv.out);obtain ⟨kn, hkn⟩ : ∃ kn, e.kind.toNat = kn := ⟨_, rfl⟩;obtain ⟨sn, hsn⟩ : ∃ sn, e.space.toNat = sn := ⟨_, rfl⟩;have HKn := hide hkn;have HSn := hide hsn;clear hkn hsn;go_upto_region 4 with (refine wpList_store_open rfl 43 _ _ rfl rfl zcs (JN.mk 6 0 ⟨#[]⟩ none 0 [] none 0 []).cells rfl rfl (by kernel_rfl) rfl (by kernel_rfl) ?_; intro w3 m3 b3 s3; have HN3 := hide m3; have HB3 := hide b3; clear m3 b3 s3);obtain ⟨vb, hvb⟩ : ∃ g, w2.heap.size = g := ⟨_, rfl⟩;have Hvb := hide hvb;rw [hvb] at HB3 ⊢;clear hvb;have HS3 := hide (MS.fresh HB3.out (vb + 1));have HVb : Hid (w.heap.size + 1 < vb) := hide (by rw [← Hvb.out]; exact H2.out.r.lt);have A3 := (Mod.refl [] w3).alloc (.cells (ekeys.map Value.string).toArray 9);obtain ⟨B5, d5, X5, hrun, hv6, hms, hmod, hm6⟩ := (HS3.out.mod A3 (by simp)).keys (Nat.lt_succ_self vb) (by have := HB3.out.lt; simp; omega) (Nat.zero_le _) ekeys (by decide) w3.heap.size (Blk.new w3 9 (ekeys.map Value.string).toArray);replace hrun : (Builtin.append_ #[41, 41] 41 #[.slice none 0 0, .slice (some ⟨w3.heap.size, 0, none⟩) 6 6]).run Tryz.prog (w3.alloc (.cells (ekeys.map Value.string).toArray 9)) = .ok (.slice B5 6 d5) X5 := hrun;replace hms : MS (X5.setCell ⟨vb, 4, none⟩ (.slice B5 6 d5)) (vb + 1) vb 6 none 0 [] B5 d5 ekeys := hms;have HM5 := hide (hmod w2 (HN3.out.trans A3 (by simp)) (Nat.le_of_eq Hvb.out));obtain ⟨w5, hw5⟩ : ∃ x, X5.setCell ⟨vb, 4, none⟩ (.slice B5 6 d5) = x := ⟨_, rfl⟩;replace HM5 : Hid (Mod [] w2 w5) := hide (by rw [← hw5]; exact HM5.out);rw [hw5] at hms;have HS5 := hide hms;have HRun := hide hrun;have q4 : w3.cell? ⟨vb, 4, none⟩ = some (.slice none 0 0) := HS3.out.v.cell 4;have r4 : X5.cell? ⟨vb, 4, none⟩ = some (.slice none 0 0) := hv6.cell 4;have f4 : X5.frozen? ⟨vb, 4, none⟩ = false := hv6.frozen 4;have l4 := hv6.lt;have l5 := HB3.out.lt;clear A3 hrun hv6 hms hmod hm6;go_upto_region 5 with (at_builtin; refine Lib.wpList_append_run _ rfl (.tmp 16) (.tmp 17) 41 41 rfl (.slice none 0 0) (.slice (some ⟨w3.heap.size, 0, none⟩) 6 6) rfl rfl (.slice B5 6 d5) X5 HRun.out ?_);clear q4 r4 f4 l4 l5 hw5 HRun;have H5 := hide (H2.out.new HM5.out);have b1 : kn < 4611686018427387904 := by have := HO.out.k2; have := HKn.out; omega
    have b2 : e.time < 4611686018427387904 := HO.out.time;have b3 : sn < 4611686018427387904 := by have := HO.out.s2; have := HSn.out; omega
    have b4 : e.num < 4611686018427387904 := HO.out.num;have b5 : e.many < 4611686018427387904 := HO.out.many;have q1 : IntKind.u64.wrap e.kind = ((kn : Nat) : Int) := by have := HO.out.k1; have := HO.out.k2; have := HKn.out; rw [IntWalk.u64_in _ (by omega)]; omega
    have q2 : IntKind.u64.wrap e.space = ((sn : Nat) : Int) := by have := HO.out.s1; have := HO.out.s2; have := HSn.out; rw [IntWalk.u64_in _ (by omega)]; omega
    have y0 : ∀ i : Fam (Mod [] w5), i.w.cell? ⟨w.heap.size, 0, none⟩ = some (.int .i64 e.kind) := fam_cell0 ((H5.out.e.cell 0).trans (by rw [← HEc.out]; rfl)) (by simp);have y1 : ∀ i : Fam (Mod [] w5), i.w.cell? ⟨w.heap.size, 1, none⟩ = some (.int .i64 e.space) := fam_cell0 ((H5.out.e.cell 1).trans (by rw [← HEc.out]; rfl)) (by simp);have y2 : ∀ i : Fam (Mod [] w5), i.w.cell? ⟨w.heap.size, 2, none⟩ = some (.int .u64 (e.time : Nat)) := fam_cell0 ((H5.out.e.cell 2).trans (by rw [← HEc.out]; rfl)) (by simp);have y3 : ∀ i : Fam (Mod [] w5), i.w.cell? ⟨w.heap.size, 3, none⟩ = some (.int .u64 (e.num : Nat)) := fam_cell0 ((H5.out.e.cell 3).trans (by rw [← HEc.out]; rfl)) (by simp);have y4 : ∀ i : Fam (Mod [] w5), i.w.cell? ⟨w.heap.size, 4, none⟩ = some (.int .u64 (e.many : Nat)) := fam_cell0 ((H5.out.e.cell 4).trans (by rw [← HEc.out]; rfl)) (by simp);have y5 : ∀ i : Fam (Mod [] w5), i.w.cell? ⟨w.heap.size, 5, none⟩ = some (.string e.text) := fam_cell0 ((H5.out.e.cell 5).trans (by rw [← HEc.out]; rfl)) (by simp);have yv : ∀ i : Fam (Mod [] w5), i.w.cell? ⟨vb, 3, none⟩ = some (.slice none 0 0) := fam_cell0 (HS5.out.v.cell 3) (by simp);refine wp_region_planT (Mod [] w5) [25] [([0, 1, 2, 3, 4, 6, 7, 9, 10, 11, 13, 14, 16, 17, 19, 20], 5), ([], 8), ([], 12), ([], 15), ([], 18), ([], 21), ([], 22), ([], 23), ([24], 25)] [] (by kernel_rfl) (by kernel_rfl) (fun _ _ _ _ _ h => h) ((Mod.refl [] w5).drew) ?_;show wpQuiet _ _ _ _ _ _;simp only [gd];(repeat (go_big_quiet_step (fail)));refine wpQuiet_nil ?_;clear y0 y1 y2 y3 y4 y5 yv q1 q2;have HV := hide ((Mod.refl [] w5).drew);iterate 6
      go_wp2_with fail
      first | refine (r7num_any _ _ (by assumption)).mono ?_ | refine (r7word_any _ _).mono ?_
      rintro e0 v9 ⟨rfl, m9⟩
      have HV := hide (HV.out.trans m9 (by simp))
      clear m9
      go_wp2_with fail
      refine Ph.on (fun _ => HV.out) ?_
      show wpQuiet _ _ _ _ _ _
      simp only [gd]
      refine wpQuiet_nil ?_
    go_wp2_with (refine wpList_laid rfl 40 43 6 _ rfl _ rfl Tryz.underlying40 zval 5 zinfo (by decide) (by decide) [(0, .agg (jnN kn).cells), (1, .agg (jnN e.time).cells), (2, .agg (jnN sn).cells), (3, .agg (jnN e.num).cells), (4, .agg (jnN e.many).cells), (5, .agg (jtN e.text).cells)] rfl (jlcells [jnN kn, jnN e.time, jnN sn, jnN e.num, jnN e.many, jtN e.text]).toArray (by kernel_rfl) ?_; intro v8 m8 b8 s8; have HV8 := hide (HV.out.trans m8 (by simp)); have HZ8 := hide b8; have HZs := hide s8; clear m8 b8 s8);obtain ⟨zl, hzl⟩ : ∃ g, v9.heap.size = g := ⟨_, rfl⟩;rw [hzl] at HZ8 ⊢;clear hzl;obtain ⟨A6, c6, X6, hrun, hv6, hms, hmod, hm6⟩ := (HS5.out.mod HV8.out (by simp)).vals (Nat.lt_succ_self vb) (by have := HS5.out.v.lt; have := HV8.out.size; omega) (Nat.zero_le _) [jnN kn, jnN e.time, jnN sn, jnN e.num, jnN e.many, jtN e.text] (by simp) (vals_plain (by intro x hx; simp only [List.mem_cons, List.not_mem_nil, or_false] at hx; rcases hx with rfl | rfl | rfl | rfl | rfl | rfl <;> exact ⟨_, _, _, rfl⟩)) zl HZ8.out;replace hrun : (Builtin.append_ #[40, 40] 40 #[.slice none 0 0, .slice (some ⟨zl, 0, none⟩) 6 6]).run Tryz.prog v8 = .ok (.slice A6 6 c6) X6 := hrun;replace hms : MS (X6.setCell ⟨vb, 3, none⟩ (.slice A6 6 c6)) (vb + 1) vb 6 A6 c6 [jnN kn, jnN e.time, jnN sn, jnN e.num, jnN e.many, jtN e.text] B5 d5 ekeys := hms;have HM6 := hide (hmod w2 (HM5.out.trans HV8.out (by simp)) (Nat.le_of_eq Hvb.out));have HSX := hide (HV8.out.trans hm6 (fun y hy => by cases hy));obtain ⟨w6, hw6⟩ : ∃ x, X6.setCell ⟨vb, 3, none⟩ (.slice A6 6 c6) = x := ⟨_, rfl⟩;replace HM6 : Hid (Mod [] w2 w6) := hide (by rw [← hw6]; exact HM6.out);rw [hw6] at hms;have HS6 := hide hms;have HRun := hide hrun;have r3 : X6.cell? ⟨vb, 3, none⟩ = some (.slice none 0 0) := hv6.cell 3;have f3 : X6.frozen? ⟨vb, 3, none⟩ = false := hv6.frozen 3;have l3 := hv6.lt;clear hrun hv6 hms hmod hm6;refine Ph.on (fun _ => HV8.out) ?_;show wpQuiet _ _ _ _ _ _;simp only [gd];refine wpQuiet_nil ?_;go_wp2_with (at_builtin; refine Lib.wpList_append_run _ rfl (.tmp 21) (.tmp 42) 40 40 rfl (.slice none 0 0) (.slice (some ⟨zl, 0, none⟩) 6 6) rfl rfl (.slice A6 6 c6) X6 HRun.out ?_);refine Ph.on (fun _ => HSX.out) ?_;show wpQuiet _ _ _ _ _ _;simp only [gd];(repeat (go_big_quiet_step (fail)));refine wpQuiet_nil ?_;go_wp2_with fail;refine Ph.on (fun h => by cases h) ?_;show wpQuiet _ _ _ _ _ _;simp only [gd];refine wpQuiet_nil ?_;clear r3 f3 l3 HRun HSX HV8 HZ8 HZs HV;have H6 := hide (H2.out.new HM6.out);have XF := hide (ev_frame H6.out.e HEc.out);have hnn := r7none_any w6 A e.f.list.length c e.f (HRgw.out w6 H6.out.m);obtain ⟨bare, hbare⟩ : ∃ b, fsame e.f fr0 = b := ⟨_, rfl⟩;rw [hbare] at hnn;have HBa := hide hbare;have HNn := hide hnn;clear hnn hbare HN3 HB3 HS3 HM5 HS5 H5;go_wp2_with (refine wpList_load_mid rfl 36 _ rfl w.heap.size 6 rfl (fcs A e.f.list.length c e.f).toList _ XF.out rfl rfl (by kernel_rfl) ?_);refine HNn.out.mono ?_;rintro e0 w7 ⟨rfl, m7⟩;have H7 := hide (H6.out.new m7);have HS7 := hide (HS6.out.mod m7 (by simp));have HM7 := hide (HM6.out.trans m7 (by simp));clear m7 H6 HS6 XF HNn;cases bare with
    | true =>
      go_wp2_with (first | (refine wpList_load_mid rfl 43 _ rfl vb 0 rfl (JN.mk 6 0 ⟨#[]⟩ A6 c6 [jnN kn, jnN e.time, jnN sn, jnN e.num, jnN e.many, jtN e.text] B5 d5 ekeys).cells.toList _ HS7.out.v.range rfl rfl (by kernel_rfl) ?_) | (refine wpList_store_whole rfl 43 _ _ rfl rfl (w.heap.size + 1) 43 zcs (JN.mk 6 0 ⟨#[]⟩ A6 c6 [jnN kn, jnN e.time, jnN sn, jnN e.num, jnN e.many, jtN e.text] B5 d5 ekeys).cells H7.out.r rfl rfl (by kernel_rfl) rfl (by kernel_rfl) ?_; intro w9 m9 b9 s9; have HM9 := hide m9; have HB9 := hide b9; clear m9 b9 s9));refine bodyPost_ret (results_cell_tmp_row rfl _ _ (w.heap.size + 1) 43 (JN.mk 6 0 ⟨#[]⟩ A6 c6 [jnN kn, jnN e.time, jnN sn, jnN e.num, jnN e.many, jtN e.text] B5 d5 ekeys).cells _ rfl HB9.out Tryz.underlying43 rfl (by kernel_rfl)) rfl ?_;obtain ⟨j1, j2⟩ := HS7.out.jin (by simp [jmax]) (by simp [jmax, ekeys]);refine ⟨(JN.mk 6 0 ⟨#[]⟩ A6 c6 [jnN kn, jnN e.time, jnN sn, jnN e.num, jnN e.many, jtN e.text] B5 d5 ekeys), ?_, ?_, JIn.mod HM9.out (fun g hg => by have := (j2 g hg).1; have := HVb.out; simp; omega) j1, H7.out.m.trans HM9.out (by intro x hx; right; simp at hx; omega)⟩
      · rw [HMv.out]; rfl
      · rw [HMv.out, if_pos rfl, j6_v, ← HKn.out, ← HSn.out];unfold evalue;rw [show e.bare = true from HBa.out];rfl
    | false =>
      have HFo := hide (fmay_ok (bare_may HMv.out HBa.out));go_upto_region 9 with (refine wpList_store_open rfl 43 _ _ rfl rfl zcs (JN.mk 6 0 ⟨#[]⟩ none 0 [] none 0 []).cells rfl rfl (by kernel_rfl) rfl (by kernel_rfl) ?_; intro w8 m8 b8 s8; have HN8 := hide m8; have HB8 := hide b8; clear m8 b8 s8);obtain ⟨fb, hfb⟩ : ∃ g, w7.heap.size = g := ⟨_, rfl⟩;have Hfb := hide hfb;rw [hfb] at HB8 ⊢;clear hfb;have HS8 := hide (MS.fresh HB8.out (fb + 1));have A3 := (Mod.refl [] w8).alloc (.cells (fkeys.map Value.string).toArray 9);obtain ⟨B9, d9, X9, hrun, hv6, hms, hmod, hm6⟩ := (HS8.out.mod A3 (by simp)).keys (Nat.lt_succ_self fb) (by have := HB8.out.lt; simp; omega) (Nat.zero_le _) fkeys (by decide) w8.heap.size (Blk.new w8 9 (fkeys.map Value.string).toArray);replace hrun : (Builtin.append_ #[41, 41] 41 #[.slice none 0 0, .slice (some ⟨w8.heap.size, 0, none⟩) 8 8]).run Tryz.prog (w8.alloc (.cells (fkeys.map Value.string).toArray 9)) = .ok (.slice B9 8 d9) X9 := hrun;replace hms : MS (X9.setCell ⟨fb, 4, none⟩ (.slice B9 8 d9)) (fb + 1) fb 6 none 0 [] B9 d9 fkeys := hms;have HM9 := hide (hmod w7 (HN8.out.trans A3 (by simp)) (Nat.le_of_eq Hfb.out));obtain ⟨w9, hw9⟩ : ∃ x, X9.setCell ⟨fb, 4, none⟩ (.slice B9 8 d9) = x := ⟨_, rfl⟩;replace HM9 : Hid (Mod [] w7 w9) := hide (by rw [← hw9]; exact HM9.out);rw [hw9] at hms;have HS9 := hide hms;have HRun := hide hrun;have q4 : w8.cell? ⟨fb, 4, none⟩ = some (.slice none 0 0) := HS8.out.v.cell 4;have r4 : X9.cell? ⟨fb, 4, none⟩ = some (.slice none 0 0) := hv6.cell 4;have f4 : X9.frozen? ⟨fb, 4, none⟩ = false := hv6.frozen 4;have l4 := hv6.lt;have l5 := HB8.out.lt;clear A3 hrun hv6 hms hmod hm6;go_upto_region 10 with (at_builtin; refine Lib.wpList_append_run _ rfl (.tmp 51) (.tmp 52) 41 41 rfl (.slice none 0 0) (.slice (some ⟨w8.heap.size, 0, none⟩) 8 8) rfl rfl (.slice B9 8 d9) X9 HRun.out ?_);clear q4 r4 f4 l4 l5 hw9 HRun;obtain ⟨fi, hfi⟩ : ∃ b, e.f.fin = b := ⟨_, rfl⟩;have HFi := hide hfi;go_upto_region 11 with (refine wpList_store_open rfl 43 _ _ rfl rfl zcs (JN.mk 1 0 ⟨#[]⟩ none 0 [] none 0 []).cells rfl rfl (by kernel_rfl) rfl (by kernel_rfl) ?_; intro w10 m10 b10 s10; have HN10 := hide m10; have HB10 := hide b10; clear m10 b10 s10);obtain ⟨gb, hgb⟩ : ∃ g, w9.heap.size = g := ⟨_, rfl⟩;have Hgb := hide hgb;rw [hgb] at HB10 ⊢;clear hgb;have HS10 := hide (MS.fresh HB10.out (gb + 1));have H10 := hide (H7.out.new (HM9.out.trans HN10.out (by simp)));have c10 : w10.cell? ⟨w.heap.size, 10, none⟩ = some (.bool fi) := (H10.out.e.cell 10).trans (by rw [← HEc.out, ← hfi]; rfl);have g0 : w10.cell? ⟨gb, 0, none⟩ = some (.int .i64 1) := HB10.out.cell 0;have g0f : w10.frozen? ⟨gb, 0, none⟩ = false := HB10.out.frozen 0;have g0l := HB10.out.lt;clear hfi HS10;go_upto_if 58 with fail;go_cut [] (fun wx => Hid (Mod [] w9 wx) ∧ Hid (Blk wx gb 43 (jbN fi).cells))
      case first =>
        have HGs := hide ((HN10.out).setCell (p := ⟨gb, 0, none⟩) (.inr (Nat.le_of_eq Hgb.out)) (.int .i64 2));have HGb : Hid (Blk (w10.setCell ⟨gb, 0, none⟩ (.int .i64 2)) gb 43 (jbN true).cells) := hide (HB10.out.set_ 0 (.int .i64 2));cases fi with
        | false =>go_wp2_with fail;go_meet;exact ⟨HN10, HB10⟩
        | true =>go_wp2_with fail;go_meet;exact ⟨HGs, HGb⟩
      case rest =>
        obtain ⟨hmc, hgc⟩ := hcut;clear c10 g0 g0f g0l HN10 HB10 H10;go_upto_region 14 with (refine wpList_store_open rfl 43 _ _ rfl rfl zcs (JN.mk 5 0 ⟨#[]⟩ none 0 [] none 0 []).cells rfl rfl (by kernel_rfl) rfl (by kernel_rfl) ?_; intro w12 m12 b12 s12; have HN12 := hide m12; have HB12 := hide b12; clear m12 b12 s12);obtain ⟨lb, hlb⟩ : ∃ g, wc.heap.size = g := ⟨_, rfl⟩;have Hlb := hide hlb;rw [hlb] at HB12 ⊢;clear hlb;have HS12 := hide (MS.fresh HB12.out (lb + 1));obtain ⟨n, hn⟩ : ∃ n, e.f.list.length = n := ⟨_, rfl⟩;have HN := hide hn;have hn64 : n ≤ 64 := (by rw [← hn]; exact HFo.out.len);have HRn : Hid (∀ w', Mod [] w w' → Rngs w' A n e.f.list) := hide (fun w' m => hn ▸ HRgw.out w' m);have HC := hide (H7.out.new (HM9.out.trans hmc.out (by simp)));clear hn;go_wp2_with fail;go_loopw [8] (fun iv wr => ∃ (j c' : Nat) (A' : Option Addr) (l : List JN), j ≤ n ∧ l.length = j ∧ iv = .int .i64 (j : Int) ∧ Hid (JN.vs l = (e.f.list.take j).map jr) ∧ Hid (Mod [] wc wr) ∧ Hid (MS wr (lb + 1) lb 5 A' c' l none 0 [])) (fun iv _ => n - (intOf iv).toNat)
        case atStart => exact ⟨0, 0, none, [], by omega, rfl, rfl, hide rfl, HN12, HS12⟩
        case round =>
          obtain ⟨j, c', A', l, hjn, hlj, rfl, hvs, hmr, hsr⟩ := hrel;have HR := hide (HC.out.new hmr.out);have c13 : wr.cell? ⟨w.heap.size, 13, none⟩ = some (.slice A n c) := (HR.out.e.cell 13).trans (by rw [← HEc.out, ← HN.out]; rfl);have HLj := hide hlj;clear hlj;by_cases h2 : j < n
          · obtain ⟨g, o, hjl, hA, hgl, d0, d1⟩ := (HRn.out wr HR.out.m).at_ h2;subst hA;have hii : (j : Int) < (n : Int) := (by omega);have a1 : IntKind.i64.wrap ((j : Int) + 1) = (j : Int) + 1 := IntWalk.i64_in _ (by omega);obtain ⟨lo, hlo⟩ : ∃ x, e.f.list[j].1 = x := ⟨_, rfl⟩;obtain ⟨hi, hhi⟩ : ∃ x, e.f.list[j].2 = x := ⟨_, rfl⟩;have HE := hide (show e.f.list[j]? = some (lo, hi) by rw [List.getElem?_eq_getElem hjl, ← hlo, ← hhi]);have HD0 := hide d0;have HD1 := hide d1;rw [hlo] at HD0;rw [hhi] at HD1;have b6 : lo < 4611686018427387904 := (HFo.out.list (lo, hi) (List.mem_of_getElem? HE.out)).1;have b7 : hi < 4611686018427387904 := (HFo.out.list (lo, hi) (List.mem_of_getElem? HE.out)).2;clear hlo hhi d0 d1 hjl;go_upto_region 18 with (refine wpList_store_open rfl 43 _ _ rfl rfl zcs (JN.mk 5 0 ⟨#[]⟩ none 0 [] none 0 []).cells rfl rfl (by kernel_rfl) rfl (by kernel_rfl) ?_; intro w13 m13 b13 s13; have HN13 := hide m13; have HB13 := hide b13; clear m13 b13 s13);obtain ⟨xb, hxb⟩ : ∃ g, wr.heap.size = g := ⟨_, rfl⟩;have Hxb := hide hxb;rw [hxb] at HB13 ⊢;clear hxb;have HS13 := hide (MS.fresh HB13.out (xb + 1));have yx : ∀ i : Fam (Mod [] w13), i.w.cell? ⟨xb, 3, none⟩ = some (.slice none 0 0) := fam_cell0 (HB13.out.cell 3) (by simp);have yl : ∀ i : Fam (Mod [] w13), i.w.cell? ⟨w.heap.size, 13, none⟩ = some (.slice (some ⟨g, o, none⟩) n c) := fam_cell0 ((HN13.out.cell (World.block_lt_of_cell? _ _ c13) (by simp)).trans c13) (by simp);have yd : ∀ i : Fam (Mod [] w13), i.w.cell? ⟨g, o + j * 2, none⟩ = some (.int .u64 (lo : Nat)) := fam_cell0 ((HN13.out.cell (World.block_lt_of_cell? _ _ HD0.out) (by simp)).trans HD0.out) (by simp);have ye : ∀ i : Fam (Mod [] w13), i.w.cell? ⟨g, o + j * 2 + 1, none⟩ = some (.int .u64 (hi : Nat)) := fam_cell0 ((HN13.out.cell (World.block_lt_of_cell? _ _ HD1.out) (by simp)).trans HD1.out) (by simp);have HM13 := HN13;refine wp_region_planT (Mod [] w13) [21] [([0, 1, 2, 3, 4, 5, 6, 7, 8, 10, 11, 12, 13, 14, 15, 16], 9), ([], 17), ([], 18), ([], 19), ([20], 21)] [] (by kernel_rfl) (by kernel_rfl) (fun _ _ _ _ _ h => h) ((Mod.refl [] w13).drew) ?_;show wpQuiet _ _ _ _ _ _;simp only [gd];(repeat (go_big_quiet_step (fail)));refine wpQuiet_nil ?_;clear yx yl yd ye;have HV := hide ((Mod.refl [] w13).drew);iterate 2
              go_wp2_with fail
              first | refine (r7num_any _ _ (by assumption)).mono ?_ | refine (r7word_any _ _).mono ?_
              rintro e0 v9 ⟨rfl, m9⟩
              have HV := hide (HV.out.trans m9 (by simp))
              clear m9
              go_wp2_with fail
              refine Ph.on (fun _ => HV.out) ?_
              show wpQuiet _ _ _ _ _ _
              simp only [gd]
              refine wpQuiet_nil ?_
            go_wp2_with (refine wpList_laid rfl 40 43 2 _ rfl _ rfl Tryz.underlying40 zval 5 zinfo (by decide) (by decide) [(0, .agg (jnN lo).cells), (1, .agg (jnN hi).cells)] rfl (jlcells [jnN lo, jnN hi]).toArray (by kernel_rfl) ?_; intro v8 m8 b8 s8; have HV8 := hide (HV.out.trans m8 (by simp)); have HZ8 := hide b8; have HZs := hide s8; clear m8 b8 s8);obtain ⟨zl, hzl⟩ : ∃ g, v9.heap.size = g := ⟨_, rfl⟩;rw [hzl] at HZ8 ⊢;clear hzl;obtain ⟨A14, c14, X14, hrun, hv6, hms, hmod, hm6⟩ := (HS13.out.mod HV8.out (by simp)).vals (Nat.lt_succ_self xb) (by have := HS13.out.v.lt; have := HV8.out.size; omega) (Nat.zero_le _) [jnN lo, jnN hi] (by simp) (vals_plain (by intro x hx; simp only [List.mem_cons, List.not_mem_nil, or_false] at hx; rcases hx with rfl | rfl <;> exact ⟨_, _, _, rfl⟩)) zl HZ8.out;replace hrun : (Builtin.append_ #[40, 40] 40 #[.slice none 0 0, .slice (some ⟨zl, 0, none⟩) 2 2]).run Tryz.prog v8 = .ok (.slice A14 2 c14) X14 := hrun;replace hms : MS (X14.setCell ⟨xb, 3, none⟩ (.slice A14 2 c14)) (xb + 1) xb 5 A14 c14 [jnN lo, jnN hi] none 0 [] := hms;have HM14 := hide (hmod wr (HM13.out.trans HV8.out (by simp)) (Nat.le_of_eq Hxb.out));have HSX := hide (HV8.out.trans hm6 (fun y hy => by cases hy));obtain ⟨w14, hw14⟩ : ∃ x, X14.setCell ⟨xb, 3, none⟩ (.slice A14 2 c14) = x := ⟨_, rfl⟩;replace HM14 : Hid (Mod [] wr w14) := hide (by rw [← hw14]; exact HM14.out);rw [hw14] at hms;have HS14 := hide hms;have HRun := hide hrun;have r3 : X14.cell? ⟨xb, 3, none⟩ = some (.slice none 0 0) := hv6.cell 3;have f3 : X14.frozen? ⟨xb, 3, none⟩ = false := hv6.frozen 3;have l3 := hv6.lt;clear hrun hv6 hms hmod hm6;refine Ph.on (fun _ => HV8.out) ?_;show wpQuiet _ _ _ _ _ _;simp only [gd];refine wpQuiet_nil ?_;go_wp2_with (at_builtin; refine Lib.wpList_append_run _ rfl (.tmp 71) (.tmp 88) 40 40 rfl (.slice none 0 0) (.slice (some ⟨zl, 0, none⟩) 2 2) rfl rfl (.slice A14 2 c14) X14 HRun.out ?_);refine Ph.on (fun _ => HSX.out) ?_;show wpQuiet _ _ _ _ _ _;simp only [gd];(repeat (go_big_quiet_step (fail)));refine wpQuiet_nil ?_;go_wp2_with fail;refine Ph.on (fun h => by cases h) ?_;show wpQuiet _ _ _ _ _ _;simp only [gd];refine wpQuiet_nil ?_;clear r3 f3 l3 HRun HSX HV8 HZ8 HZs HV;have HSl := hide (hsr.out.mod HM14.out (by simp));have p3 : w14.cell? ⟨lb, 3, none⟩ = some (.slice A' j c') := (by rw [← HLj.out]; exact HSl.out.v.cell 3);have pl := HSl.out.v.lt;have HXx := hide (HS14.out.jin (by simp [jmax]) (by simp [jmax]));have HLx : Hid (∀ k, (Value.slice A' l.length c').ownBlock = some k → k < xb) := hide (fun k hk => by rw [← Hxb.out]; exact (hsr.out.lo.lt k hk).2);have HLb : Hid (lb < xb) := hide (by rw [← Hxb.out]; exact hsr.out.v.lt);clear c13 HN13 HB13 HS13 HM13 b6 b7 HD0 HD1
            go_wp2_with (first
              | (refine wpList_load_mid rfl 43 _ rfl xb 0 rfl (JN.mk 5 0 ⟨#[]⟩ A14 c14 [jnN lo, jnN hi] none 0 []).cells.toList _ HS14.out.v.range rfl rfl (by kernel_rfl) ?_)
              | (refine wpList_laid rfl 40 43 1 _ rfl _ rfl Tryz.underlying40 zval 5 zinfo (by decide) (by decide) [(0, .agg (JN.mk 5 0 ⟨#[]⟩ A14 c14 [jnN lo, jnN hi] none 0 []).cells)] rfl (jlcells [(JN.mk 5 0 ⟨#[]⟩ A14 c14 [jnN lo, jnN hi] none 0 [])]).toArray (by kernel_rfl) ?_
                 intro v8 m8 b8 s8
                 obtain ⟨zl, hzl⟩ : ∃ g, w14.heap.size = g := ⟨_, rfl⟩
                 rw [hzl] at b8 ⊢
                 obtain ⟨A15, c15, X15, hrun, hv6, hms, hmod, hm6⟩ := (HSl.out.mod m8 (by simp)).vals (Nat.lt_succ_self lb) (by have := HSl.out.v.lt; have := m8.size; omega) (by rw [HLj.out]; omega) [(JN.mk 5 0 ⟨#[]⟩ A14 c14 [jnN lo, jnN hi] none 0 [])] (by simp) (by
                   intro x hx
                   rw [List.mem_singleton] at hx
                   subst hx
                   refine ⟨HXx.out.1.new m8, fun g hg => ?_⟩
                   have h1 := HXx.out.2 g hg
                   have h2 := HLb.out
                   exact ⟨by omega, Nat.lt_of_lt_of_le h1.2 m8.size, fun h => by have := HLx.out g h; omega, fun h => by cases h⟩) zl b8
                 rw [HLj.out] at hrun hms hmod
                 replace hrun : (Builtin.append_ #[40, 40] 40 #[.slice A' j c', .slice (some ⟨zl, 0, none⟩) 1 1]).run Tryz.prog v8 = .ok (.slice A15 (j + 1) c15) X15 := hrun
                 obtain ⟨w15, hw15⟩ : ∃ x, X15.setCell ⟨lb, 3, none⟩ (.slice A15 (j + 1) c15) = x := ⟨_, rfl⟩
                 have HM15 := hide (hmod wc (hmr.out.trans (HM14.out.trans m8 (by simp)) (by simp)) (Nat.le_of_eq Hlb.out))
                 replace HM15 : Hid (Mod [] wc w15) := hide (by rw [← hw15]; exact HM15.out)
                 replace hms : MS (X15.setCell ⟨lb, 3, none⟩ (.slice A15 (j + 1) c15)) (lb + 1) lb 5 A15 c15 (l ++ [(JN.mk 5 0 ⟨#[]⟩ A14 c14 [jnN lo, jnN hi] none 0 [])]) none 0 [] := hms
                 rw [hw15] at hms
                 have HS15 := hide hms
                 have HRun := hide hrun
                 have r3 : X15.cell? ⟨lb, 3, none⟩ = some (.slice A' j c') := by rw [← HLj.out]; exact hv6.cell 3
                 have f3 : X15.frozen? ⟨lb, 3, none⟩ = false := hv6.frozen 3
                 have l3 := hv6.lt
                 have p3 : v8.cell? ⟨lb, 3, none⟩ = some (.slice A' j c') := (m8.cell pl (by simp)).trans p3
                 clear hrun hv6 hms hmod hm6 m8 b8 s8 hzl)
              | (at_builtin; refine Lib.wpList_append_run _ rfl (.tmp 92) (.tmp 94) 40 40 rfl (.slice A' j c') (.slice (some ⟨zl, 0, none⟩) 1 1) rfl rfl (.slice A15 (j + 1) c15) X15 HRun.out ?_))
            refine ⟨?rel, ?measure⟩
            case rel => exact ⟨j + 1, c15, A15, l ++ [(JN.mk 5 0 ⟨#[]⟩ A14 c14 [jnN lo, jnN hi] none 0 [])], by omega, by rw [List.length_append, HLj.out]; rfl, by go_num, hide (by rw [JN.vs_app, hvs.out, take_map_snoc jr HE.out]; rfl), HM15, HS15⟩
            case measure => simp [intOf]; omega
          · have hii : decide ((j : Int) < (n : Int)) = false := decide_eq_false (by omega);have hiin : decide (j < n) = false := decide_eq_false (by omega);have HvN : Hid (JN.vs l = e.f.list.map jr) := hide (by rw [hvs.out, List.take_of_length_le (by have := HN.out; omega)]);clear h2;go_upto_region 20 with fail;have HSf := hide (HS9.out.mod (hmc.out.trans hmr.out (by simp)) (by simp));have HMr := hide (HM9.out.trans (hmc.out.trans hmr.out (by simp)) (by simp));have HGr := hide (hmr.out.blk hgc.out (by simp));have HRg := hide (cls_row HGr.out (Mod.refl [] wr) HGr.out.lt (by simp));have HRl := hide (cls_row hsr.out.v (Mod.refl [] wr) hsr.out.v.lt (by simp));have b6 : e.f.kind < 4611686018427387904 := by have := HFo.out.kind; omega
            have b7 : e.f.a < 4611686018427387904 := HFo.out.a;have b8 : e.f.b < 4611686018427387904 := HFo.out.b;have b9 : e.f.c < 4611686018427387904 := HFo.out.c
            have HIn : Hid (∀ v8, Mod [] wr v8 → ∀ x ∈ [jnN e.f.kind, jnN e.f.a, jnN e.f.b, jnN e.f.c, jbN fi, jtN e.f.data, jtN e.f.more, JN.mk 5 0 ⟨#[]⟩ A' c' l none 0 []], JIn v8 x ∧ ∀ g ∈ JFoot x, fb + 1 ≤ g ∧ g < v8.heap.size ∧ (Value.slice none 0 0).ownBlock ≠ some g ∧ (Value.slice B9 8 d9).ownBlock ≠ some g) := hide (fun v8 m x hx => by
              have hpl := vals_plain (w := v8) (base := fb + 1) (P := fun g => (Value.slice none 0 0).ownBlock ≠ some g) (Q := fun g => (Value.slice B9 8 d9).ownBlock ≠ some g) (l := [jnN e.f.kind, jnN e.f.a, jnN e.f.b, jnN e.f.c, jbN fi, jtN e.f.data, jtN e.f.more]) (by intro x hx; simp only [List.mem_cons, List.not_mem_nil, or_false] at hx; rcases hx with rfl | rfl | rfl | rfl | rfl | rfl | rfl <;> exact ⟨_, _, _, rfl⟩)
              simp only [List.mem_cons, List.not_mem_nil, or_false] at hx hpl
              by_cases hL : x = JN.mk 5 0 ⟨#[]⟩ A' c' l none 0 []
              · subst hL
                obtain ⟨j1, j2⟩ := hsr.out.jin (by rw [HLj.out]; unfold jmax; omega) (by simp [jmax])
                refine ⟨j1.new m, fun g hg => ?_⟩
                have h1 := j2 g hg
                have h2 := hgc.out.lt
                have h3 := Hlb.out
                have h4 := HS9.out.v.lt
                have h5 := hmc.out.size
                exact ⟨by omega, Nat.lt_of_lt_of_le h1.2 m.size, fun h => (by cases h), fun h => by have := (HS9.out.ko.lt g h).2; omega⟩
              · exact hpl x (by rcases hx with h | h | h | h | h | h | h | h <;> first | exact absurd h hL | simp [h]))
            have y6 : ∀ i : Fam (Mod [] wr), i.w.cell? ⟨w.heap.size, 6, none⟩ = some (.int .u64 (e.f.kind : Nat)) := fam_cell0 ((HR.out.e.cell 6).trans (by rw [← HEc.out]; rfl)) (by simp);have y7 : ∀ i : Fam (Mod [] wr), i.w.cell? ⟨w.heap.size, 7, none⟩ = some (.int .u64 (e.f.a : Nat)) := fam_cell0 ((HR.out.e.cell 7).trans (by rw [← HEc.out]; rfl)) (by simp);have y8 : ∀ i : Fam (Mod [] wr), i.w.cell? ⟨w.heap.size, 8, none⟩ = some (.int .u64 (e.f.b : Nat)) := fam_cell0 ((HR.out.e.cell 8).trans (by rw [← HEc.out]; rfl)) (by simp);have y9 : ∀ i : Fam (Mod [] wr), i.w.cell? ⟨w.heap.size, 9, none⟩ = some (.int .u64 (e.f.c : Nat)) := fam_cell0 ((HR.out.e.cell 9).trans (by rw [← HEc.out]; rfl)) (by simp);have y11 : ∀ i : Fam (Mod [] wr), i.w.cell? ⟨w.heap.size, 11, none⟩ = some (.string e.f.data) := fam_cell0 ((HR.out.e.cell 11).trans (by rw [← HEc.out]; rfl)) (by simp);have y12 : ∀ i : Fam (Mod [] wr), i.w.cell? ⟨w.heap.size, 12, none⟩ = some (.string e.f.more) := fam_cell0 ((HR.out.e.cell 12).trans (by rw [← HEc.out]; rfl)) (by simp);have yv : ∀ i : Fam (Mod [] wr), i.w.cell? ⟨fb, 3, none⟩ = some (.slice none 0 0) := fam_cell0 (HSf.out.v.cell 3) (by simp);refine wp_region_planT (Mod [] wr) [31] [([0, 1, 2, 3, 4, 6, 7, 8, 10, 11, 12, 14, 15, 16, 18, 19, 20, 21, 23, 24, 25, 27], 5), ([], 9), ([], 13), ([], 17), ([], 22), ([], 26), ([], 28), ([], 29), ([30], 31)] [] (by kernel_rfl) (by kernel_rfl) (fun _ _ _ _ _ h => h) ((Mod.refl [] wr).drew) ?_;show wpQuiet _ _ _ _ _ _;simp only [gd];(repeat (first | (refine wpQuiet_row rfl 43 _ rfl gb 0 rfl (jbN fi).cells.toList _ HRg.out rfl rfl (by kernel_rfl) ?_; simp only [pu]) | (refine wpQuiet_row rfl 43 _ rfl lb 0 rfl (JN.mk 5 0 ⟨#[]⟩ A' c' l none 0 []).cells.toList _ HRl.out rfl rfl (by kernel_rfl) ?_; simp only [pu]) | go_big_quiet_step (fail)));refine wpQuiet_nil ?_;clear y6 y7 y8 y9 y11 y12 yv;have HV := hide ((Mod.refl [] wr).drew);iterate 6
              go_wp2_with fail
              first | refine (r7num_any _ _ (by assumption)).mono ?_ | refine (r7word_any _ _).mono ?_
              rintro e0 v9 ⟨rfl, m9⟩
              have HV := hide (HV.out.trans m9 (by simp))
              clear m9
              go_wp2_with fail
              refine Ph.on (fun _ => HV.out) ?_
              show wpQuiet _ _ _ _ _ _
              simp only [gd]
              refine wpQuiet_nil ?_
            go_wp2_with (refine wpList_laid rfl 40 43 8 _ rfl _ rfl Tryz.underlying40 zval 5 zinfo (by decide) (by decide) [(0, .agg (jnN e.f.kind).cells), (1, .agg (jnN e.f.a).cells), (2, .agg (jnN e.f.b).cells), (3, .agg (jnN e.f.c).cells), (4, .agg (jbN fi).cells), (5, .agg (jtN e.f.data).cells), (6, .agg (jtN e.f.more).cells), (7, .agg (JN.mk 5 0 ⟨#[]⟩ A' c' l none 0 []).cells)] rfl (jlcells [jnN e.f.kind, jnN e.f.a, jnN e.f.b, jnN e.f.c, jbN fi, jtN e.f.data, jtN e.f.more, JN.mk 5 0 ⟨#[]⟩ A' c' l none 0 []]).toArray (by kernel_rfl) ?_; intro v8 m8 b8 s8; have HV8 := hide (HV.out.trans m8 (by simp)); have HZ8 := hide b8; have HZs := hide s8; clear m8 b8 s8);obtain ⟨zl, hzl⟩ : ∃ g, v9.heap.size = g := ⟨_, rfl⟩;rw [hzl] at HZ8 ⊢;clear hzl;obtain ⟨A20, c20, X20, hrun, hv6, hms, hmod, hm6⟩ := (HSf.out.mod HV8.out (by simp)).vals (Nat.lt_succ_self fb) (by have := HSf.out.v.lt; have := HV8.out.size; omega) (Nat.zero_le _) [jnN e.f.kind, jnN e.f.a, jnN e.f.b, jnN e.f.c, jbN fi, jtN e.f.data, jtN e.f.more, JN.mk 5 0 ⟨#[]⟩ A' c' l none 0 []] (by simp) (HIn.out _ HV8.out) zl HZ8.out;replace hrun : (Builtin.append_ #[40, 40] 40 #[.slice none 0 0, .slice (some ⟨zl, 0, none⟩) 8 8]).run Tryz.prog v8 = .ok (.slice A20 8 c20) X20 := hrun;replace hms : MS (X20.setCell ⟨fb, 3, none⟩ (.slice A20 8 c20)) (fb + 1) fb 6 A20 c20 [jnN e.f.kind, jnN e.f.a, jnN e.f.b, jnN e.f.c, jbN fi, jtN e.f.data, jtN e.f.more, JN.mk 5 0 ⟨#[]⟩ A' c' l none 0 []] B9 d9 fkeys := hms;have HM20 := hide (hmod w7 (HMr.out.trans HV8.out (by simp)) (Nat.le_of_eq Hfb.out));have HSX := hide (HV8.out.trans hm6 (fun y hy => by cases hy));obtain ⟨w20, hw20⟩ : ∃ x, X20.setCell ⟨fb, 3, none⟩ (.slice A20 8 c20) = x := ⟨_, rfl⟩;replace HM20 : Hid (Mod [] w7 w20) := hide (by rw [← hw20]; exact HM20.out);rw [hw20] at hms;have HS20 := hide hms;have HRun := hide hrun;have r3 : X20.cell? ⟨fb, 3, none⟩ = some (.slice none 0 0) := hv6.cell 3;have f3 : X20.frozen? ⟨fb, 3, none⟩ = false := hv6.frozen 3;have l3 := hv6.lt;clear hrun hv6 hms hmod hm6;refine Ph.on (fun _ => HV8.out) ?_;show wpQuiet _ _ _ _ _ _;simp only [gd];refine wpQuiet_nil ?_;go_wp2_with (at_builtin; refine Lib.wpList_append_run _ rfl (.tmp 98) (.tmp 125) 40 40 rfl (.slice none 0 0) (.slice (some ⟨zl, 0, none⟩) 8 8) rfl rfl (.slice A20 8 c20) X20 HRun.out ?_);refine Ph.on (fun _ => HSX.out) ?_;show wpQuiet _ _ _ _ _ _;simp only [gd];(repeat (go_big_quiet_step (fail)));refine wpQuiet_nil ?_;go_wp2_with fail;refine Ph.on (fun h => by cases h) ?_;show wpQuiet _ _ _ _ _ _;simp only [gd];refine wpQuiet_nil ?_;clear r3 f3 l3 HRun HSX HV8 HZ8 HZs HV;clear HSf HGr HRg HRl HIn HMr b6 b7 b8 b9 hw20 c13 hii hiin;have HSv := hide (HS7.out.mod HM20.out (by simp));have A3 := (Mod.refl [] w20).alloc (.cells ([fkey].map Value.string).toArray 9);obtain ⟨B21, d21, X21, hrun, hv6, hms, hmod, hm6, hown⟩ := (HSv.out.mod A3 (by simp)).keys (Nat.lt_succ_self vb) (by have := HSv.out.v.lt; simp; omega) (by simp [ekeys]) [fkey] (by simp) w20.heap.size (Blk.new w20 9 ([fkey].map Value.string).toArray);replace hrun : (Builtin.append_ #[41, 41] 41 #[.slice B5 6 d5, .slice (some ⟨w20.heap.size, 0, none⟩) 1 1]).run Tryz.prog (w20.alloc (.cells ([fkey].map Value.string).toArray 9)) = .ok (.slice B21 7 d21) X21 := hrun;replace hms : MS (X21.setCell ⟨vb, 4, none⟩ (.slice B21 7 d21)) (vb + 1) vb 6 A6 c6 [jnN kn, jnN e.time, jnN sn, jnN e.num, jnN e.many, jtN e.text] B21 d21 (ekeys ++ [fkey]) := hms;have hm21 := hmod w2 ((HM7.out.trans HM20.out (by simp)).trans A3 (by simp)) (Nat.le_of_eq Hvb.out);have ht21 : Mod ((Value.slice B5 6 d5).ownBlock.toList ++ [vb]) (w20.alloc (.cells ([fkey].map Value.string).toArray 9)) (X21.setCell ⟨vb, 4, none⟩ (.slice B21 7 d21)) := (Mod.mono hm6 (fun y hy => .inl (by simp only [List.mem_append]; exact .inl hy))).setCell (p := ⟨vb, 4, none⟩) (.inl (by simp)) _
            have hsf := (HS20.out.mod A3 (by simp)).mod ht21 (fun g hg => by
              have h1 := Hfb.out
              have h2 := HS7.out.v.lt
              simp only [List.mem_append, Option.mem_toList, List.mem_singleton] at hg
              rcases hg with hg | hg
              · have := (HS7.out.ko.lt g hg).2; omega
              · omega)
            obtain ⟨w21, hw21⟩ : ∃ x, X21.setCell ⟨vb, 4, none⟩ (.slice B21 7 d21) = x := ⟨_, rfl⟩;replace hm21 : Mod [] w2 w21 := (by rw [← hw21]; exact hm21);rw [hw21] at hms hsf;have HM21 := hide hm21;have HS21 := hide hms;have HSf := hide hsf;have HOw : Hid (∀ k, (Value.slice B21 7 d21).ownBlock = some k → k < fb ∨ w20.heap.size ≤ k) := hide (fun k hk => (hown k hk).imp (fun h => by rw [← Hfb.out]; exact (HS7.out.ko.lt k h).2) (fun h => by rw [h]; simp));have HFj := hide (HS20.out.jin (by simp [jmax]) (by simp [jmax, fkeys]));have HRun := hide hrun;have q4 : w20.cell? ⟨vb, 4, none⟩ = some (.slice B5 6 d5) := HSv.out.v.cell 4;have r4 : X21.cell? ⟨vb, 4, none⟩ = some (.slice B5 6 d5) := hv6.cell 4;have f4 : X21.frozen? ⟨vb, 4, none⟩ = false := hv6.frozen 4;have l4 := hv6.lt;have l5 := HSv.out.v.lt;clear A3 hrun hv6 hms hmod hm6 hown hm21 ht21 hsf;go_upto_region 22 with (at_builtin; refine Lib.wpList_append_run _ rfl (.tmp 129) (.tmp 130) 41 41 rfl (.slice B5 6 d5) (.slice (some ⟨w20.heap.size, 0, none⟩) 1 1) rfl rfl (.slice B21 7 d21) X21 HRun.out ?_);clear q4 r4 f4 l4 l5 hw21 HRun;have p3 : w21.cell? ⟨vb, 3, none⟩ = some (.slice A6 6 c6) := HS21.out.v.cell 3;have pl := HS21.out.v.lt
            go_upto_region 23 with (first
              | (refine wpList_load_mid rfl 43 _ rfl fb 0 rfl (JN.mk 6 0 ⟨#[]⟩ A20 c20 [jnN e.f.kind, jnN e.f.a, jnN e.f.b, jnN e.f.c, jbN fi, jtN e.f.data, jtN e.f.more, JN.mk 5 0 ⟨#[]⟩ A' c' l none 0 []] B9 d9 fkeys).cells.toList _ HSf.out.v.range rfl rfl (by kernel_rfl) ?_)
              | (refine wpList_laid rfl 40 43 1 _ rfl _ rfl Tryz.underlying40 zval 5 zinfo (by decide) (by decide) [(0, .agg (JN.mk 6 0 ⟨#[]⟩ A20 c20 [jnN e.f.kind, jnN e.f.a, jnN e.f.b, jnN e.f.c, jbN fi, jtN e.f.data, jtN e.f.more, JN.mk 5 0 ⟨#[]⟩ A' c' l none 0 []] B9 d9 fkeys).cells)] rfl (jlcells [(JN.mk 6 0 ⟨#[]⟩ A20 c20 [jnN e.f.kind, jnN e.f.a, jnN e.f.b, jnN e.f.c, jbN fi, jtN e.f.data, jtN e.f.more, JN.mk 5 0 ⟨#[]⟩ A' c' l none 0 []] B9 d9 fkeys)]).toArray (by kernel_rfl) ?_
                 intro v8 m8 b8 s8
                 obtain ⟨zl, hzl⟩ : ∃ g, w21.heap.size = g := ⟨_, rfl⟩
                 rw [hzl] at b8 ⊢
                 obtain ⟨A22, c22, X22, hrun, hv6, hms, hmod, hm6⟩ := (HS21.out.mod m8 (by simp)).vals (Nat.lt_succ_self vb) (by have := HS21.out.v.lt; have := m8.size; omega) (by simp) [(JN.mk 6 0 ⟨#[]⟩ A20 c20 [jnN e.f.kind, jnN e.f.a, jnN e.f.b, jnN e.f.c, jbN fi, jtN e.f.data, jtN e.f.more, JN.mk 5 0 ⟨#[]⟩ A' c' l none 0 []] B9 d9 fkeys)] (by simp) (by
                   intro x hx
                   rw [List.mem_singleton] at hx
                   subst hx
                   obtain ⟨j1, j2⟩ := HSf.out.jin (by simp [jmax]) (by simp [jmax, fkeys])
                   refine ⟨j1.new m8, fun g hg => ?_⟩
                   have h1 := j2 g hg
                   have h2 := HS7.out.v.lt
                   have h3 := Hfb.out
                   have h4 := (HFj.out.2 g hg).2
                   exact ⟨by omega, Nat.lt_of_lt_of_le h1.2 m8.size, fun h => by have := (HS7.out.lo.lt g h).2; omega, fun h => by have := HOw.out g h; omega⟩) zl b8
                 replace hrun : (Builtin.append_ #[40, 40] 40 #[.slice A6 6 c6, .slice (some ⟨zl, 0, none⟩) 1 1]).run Tryz.prog v8 = .ok (.slice A22 7 c22) X22 := hrun
                 obtain ⟨w22, hw22⟩ : ∃ x, X22.setCell ⟨vb, 3, none⟩ (.slice A22 7 c22) = x := ⟨_, rfl⟩
                 have HM22 := hide (hmod w2 (HM21.out.trans m8 (by simp)) (Nat.le_of_eq Hvb.out))
                 replace HM22 : Hid (Mod [] w2 w22) := hide (by rw [← hw22]; exact HM22.out)
                 replace hms : MS (X22.setCell ⟨vb, 3, none⟩ (.slice A22 7 c22)) (vb + 1) vb 6 A22 c22 ([jnN kn, jnN e.time, jnN sn, jnN e.num, jnN e.many, jtN e.text] ++ [(JN.mk 6 0 ⟨#[]⟩ A20 c20 [jnN e.f.kind, jnN e.f.a, jnN e.f.b, jnN e.f.c, jbN fi, jtN e.f.data, jtN e.f.more, JN.mk 5 0 ⟨#[]⟩ A' c' l none 0 []] B9 d9 fkeys)]) B21 d21 (ekeys ++ [fkey]) := hms
                 rw [hw22] at hms
                 have HS22 := hide hms
                 have HRun := hide hrun
                 have r3 : X22.cell? ⟨vb, 3, none⟩ = some (.slice A6 6 c6) := hv6.cell 3
                 have f3 : X22.frozen? ⟨vb, 3, none⟩ = false := hv6.frozen 3
                 have l3 := hv6.lt
                 have p3 : v8.cell? ⟨vb, 3, none⟩ = some (.slice A6 6 c6) := (m8.cell pl (by simp)).trans p3
                 clear hrun hv6 hms hmod hm6 m8 b8 s8 hzl)
              | (at_builtin; refine Lib.wpList_append_run _ rfl (.tmp 134) (.tmp 136) 40 40 rfl (.slice A6 6 c6) (.slice (some ⟨zl, 0, none⟩) 1 1) rfl rfl (.slice A22 7 c22) X22 HRun.out ?_))
            have H22 := hide (H2.out.new HM22.out);clear p3 pl;go_wp2_with (first | (refine wpList_load_mid rfl 43 _ rfl vb 0 rfl (JN.mk 6 0 ⟨#[]⟩ A22 c22 ([jnN kn, jnN e.time, jnN sn, jnN e.num, jnN e.many, jtN e.text] ++ [(JN.mk 6 0 ⟨#[]⟩ A20 c20 [jnN e.f.kind, jnN e.f.a, jnN e.f.b, jnN e.f.c, jbN fi, jtN e.f.data, jtN e.f.more, JN.mk 5 0 ⟨#[]⟩ A' c' l none 0 []] B9 d9 fkeys)]) B21 d21 (ekeys ++ [fkey])).cells.toList _ HS22.out.v.range rfl rfl (by kernel_rfl) ?_) | (refine wpList_store_whole rfl 43 _ _ rfl rfl (w.heap.size + 1) 43 zcs (JN.mk 6 0 ⟨#[]⟩ A22 c22 ([jnN kn, jnN e.time, jnN sn, jnN e.num, jnN e.many, jtN e.text] ++ [(JN.mk 6 0 ⟨#[]⟩ A20 c20 [jnN e.f.kind, jnN e.f.a, jnN e.f.b, jnN e.f.c, jbN fi, jtN e.f.data, jtN e.f.more, JN.mk 5 0 ⟨#[]⟩ A' c' l none 0 []] B9 d9 fkeys)]) B21 d21 (ekeys ++ [fkey])).cells H22.out.r rfl rfl (by kernel_rfl) rfl (by kernel_rfl) ?_; intro w9 m9 b9 s9; have HM9 := hide m9; have HB9 := hide b9; clear m9 b9 s9));refine bodyPost_ret (results_cell_tmp_row rfl _ _ (w.heap.size + 1) 43 (JN.mk 6 0 ⟨#[]⟩ A22 c22 ([jnN kn, jnN e.time, jnN sn, jnN e.num, jnN e.many, jtN e.text] ++ [(JN.mk 6 0 ⟨#[]⟩ A20 c20 [jnN e.f.kind, jnN e.f.a, jnN e.f.b, jnN e.f.c, jbN fi, jtN e.f.data, jtN e.f.more, JN.mk 5 0 ⟨#[]⟩ A' c' l none 0 []] B9 d9 fkeys)]) B21 d21 (ekeys ++ [fkey])).cells _ rfl HB9.out Tryz.underlying43 rfl (by kernel_rfl)) rfl ?_;obtain ⟨j1, j2⟩ := HS22.out.jin (by simp [jmax]) (by simp [jmax, ekeys]);refine ⟨(JN.mk 6 0 ⟨#[]⟩ A22 c22 ([jnN kn, jnN e.time, jnN sn, jnN e.num, jnN e.many, jtN e.text] ++ [(JN.mk 6 0 ⟨#[]⟩ A20 c20 [jnN e.f.kind, jnN e.f.a, jnN e.f.b, jnN e.f.c, jbN fi, jtN e.f.data, jtN e.f.more, JN.mk 5 0 ⟨#[]⟩ A' c' l none 0 []] B9 d9 fkeys)]) B21 d21 (ekeys ++ [fkey])), ?_, ?_, JIn.mod HM9.out (fun g hg => by have := (j2 g hg).1; have := HVb.out; simp; omega) j1, H22.out.m.trans HM9.out (by intro x hx; right; simp at hx; omega)⟩
            · rw [HMv.out]; rfl
            · rw [HMv.out, if_pos rfl, JN.v];simp only [JN.vs_app, JN.vs, jnN_v, jtN_v, jbN_v];rw [JN.v];simp only [JN.vs, jnN_v, jtN_v, jbN_v];rw [JN.v, HvN.out];unfold evalue;rw [← HKn.out, ← HSn.out, show e.bare = false from HBa.out];unfold jfr;rw [HFi.out];rfl
theorem r7whole_any (w:World) (x:JN) (hi:i64B x.v.i=true):Calls Tryz.prog 68 #[.agg x.cells] w fun r w'=>r=.returned (.int .u64 (rwh x.v:Nat))∧Mod [] w w':=by
 obtain⟨k,i,t,A,c,l,B,d,ks⟩:=x;obtain⟨n,hn⟩:∃n,rwh (JN.mk k i t A c l B d ks).v=n:=⟨_,rfl⟩;rw[hn];have HN:Hid (n=if k=3∧0≤i then i.toNat else 4611686018427387904):=hide (by rw[←hn,JN.v];rfl);rw[JN.v]at hi;have hr: -9223372036854775808≤i∧i < 9223372036854775808:=by have h:=hi;unfold i64B JV.i at h;simp only[Bool.and_eq_true,decide_eq_true_eq]at h;exact h
 unfold JN.cells;clear hn hi;rcases hem (k=3∧0≤i)with h | h
 ·have e:n=i.toNat:=HN.out.trans (if_pos h.out);have z1:(k !=3)=false:=ieT (hide h.out.1);have z2:decide (i < 0)=false:=decide_eq_false (by have:=h.out.2;omega);have q:IntKind.u64.wrap i=(n:Int):=by have:=h.out.2;rw[IntWalk.u64_in _ (by omega)];omega
  clear e;go_enter Tryz.func68,Tryz.ntmps68;go_wp2_with fail;go_ret;exact⟨rfl,(Mod.refl [] w).alloc _⟩
 ·obtain rfl:n=4611686018427387904:=HN.out.trans (if_neg h.out);rcases hem (k=3)with h1 | h1;all_goals
   first | have z1:(k !=3)=false:=ieT h1 | have z1:(k !=3)=true:=ieF h1
   try have z2:decide (i < 0)=true:=decide_eq_true (by have:=h.out;have:=h1.out;omega)
   go_enter Tryz.func68,Tryz.ntmps68
   go_wp2_with fail
   go_ret
   exact⟨rfl,(Mod.refl [] w).alloc _⟩
theorem r7_built (n1 n3 n4:Nat) (q:ByteArray):(Tryz.prog).built 38 [(2,.int .u64 (n1:Int)),(3,.int .u64 (n3:Int)),(4,.int .u64 (n4:Int)),(5,.string q)]=some (ecs none 0 0 ⟨0,0,n1,n3,n4,q,fr0⟩):=by kernel_rfl
theorem r7f_built (n0 n1 n2 n3:Nat) (b:Bool) (p q:ByteArray):(Tryz.prog).built 36 [(0,.int .u64 (n0:Int)),(1,.int .u64 (n1:Int)),(2,.int .u64 (n2:Int)),(3,.int .u64 (n3:Int)),(4,.bool b),(5,.string p),(6,.string q)]=some (fcs none 0 0 ⟨n0,n1,n2,n3,b,p,q,[]⟩):=by kernel_rfl
theorem jrng_i {x:JV} (h:jrng x=true):i64B x.i=true:=by cases x;rw[jrng,Bool.and_eq_true]at h;exact h.1
structure QV (w v:World) (xc:Array Value):Prop where
 m:Mod [] w v
 x:Blk v w.heap.size 43 xc
 r:Blk v (w.heap.size+1) 38 (ecs none 0 0 ev0)
theorem QV.new {w v v':World} {xc:Array Value} (h:QV w v xc) (m:Mod [] v v'):QV w v' xc:=⟨h.m.trans m (by simp),m.blk h.x (by simp),m.blk h.r (by simp)⟩
theorem r7_put (v:JV) (A:Option Addr) (j c:Nat) (y:Fr):setsAt (ecs none 0 0 (rev0 v fr0)) 6 (fcs A j c y).toList=ecs A j c (rev0 v y):=ecs_put _ _ _ _ _ _ _ _ _ _
theorem r7_list (A B:Option Addr) (n c m d:Nat) (v:JV) (f:Fr):(ecs A n c (rev0 v f)).setIfInBounds 13 (.slice B m d)=ecs B m d (rev0 v f):=rfl
theorem ROwn.out_ {w:World} {B:Nat} {A:Option Addr} {c:Nat} {l:List (Nat×Nat)} (h:ROwn w B A c l) {n:Nat} (hn:l.length=n) {q:Nat} {t:TypeId} {cs:Array Value} (hb:Blk w q t cs) (ht:77≠t):∀u∈(Value.slice A n c).ownBlock.toList,B≤u∧u < w.heap.size∧u≠q:=fun u hu=>by
 subst hn;rw[Option.mem_toList]at hu;refine⟨(h.lt u hu).1,(h.lt u hu).2,?_⟩;cases A with
 | none=>cases hu
 | some a=>
  have hu:a.block=u:=Option.some.inj hu;rcases h.2 with⟨h0,_⟩ | ⟨g9,_,_,hv9,_⟩
  ·cases h0
  ·cases hv9;rw[←hu];exact h.ne hb ht g9 0 rfl
theorem any_bad {l:List JN} {j:Nat} {y:JN} (hy:l[j]? =some y) (h:y.v.l.length≠2):(JN.vs l).any (fun x=>decide (x.l.length≠2))=true:=
 List.any_eq_true.2 ⟨y.v,List.mem_of_getElem? (i:=j) (by rw[JN.vs_at,hy];rfl),decide_eq_true h⟩
theorem r7of_any (w:World) (x:JN) (hx:JIn w x) (hg:jrng x.v=true) (hs:(jat (jat x.v 6) 7).l.length≤100000000):Calls Tryz.prog 30 #[.agg x.cells] w (OfPost w x.v):=by
 obtain⟨k,i,t,A,c,l,B,d,ks⟩:=x;have hv:(JN.mk k i t A c l B d ks).v=.mk k i t (JN.vs l) ks:=(by rw[JN.v]);have HRw:=hide (fun w' (m:Mod [] w w')=>(hx.new m).row);have HIs:=hide (fun w' (m:Mod [] w w')=>(hx.new m).ins);have HXi:=hide (fun w' (m:Mod [] w w')=>hx.new m);have hrl:jrngs (JN.vs l)=true:=(by rw[hv,jrng,Bool.and_eq_true]at hg;exact hg.2);have HRl:=hide hrl;have HSz:=hide hs;have hkl:=hx.len.1;unfold jmax at hkl;obtain⟨xc,hxc⟩:∃xc,(JN.mk k i t A c l B d ks).cells=xc:=⟨_,rfl⟩;have HXc:=hide hxc;obtain⟨vv,hvv⟩:∃vv:JV,(JN.mk k i t A c l B d ks).v=vv:=⟨_,rfl⟩;have HVv:Hid (JV.mk k i t (JN.vs l) ks=vv):=hide (by rw[←hvv,hv]);rw[hvv]at HSz;rw[hvv,hxc];obtain⟨n,hn⟩:∃n,l.length=n:=⟨_,rfl⟩;have HN:=hide hn;have HL:Hid (vv.l.length=n):=hide (by rw[←HVv.out];show(JN.vs l).length=n;rw[JN.vs_len,hn]);obtain⟨w1,hw1⟩:∃w1,(w.alloc (.cells xc 43)).alloc (.cells (ecs none 0 0 ev0) 38)=w1:=⟨_,rfl⟩;have H1:Hid (QV w w1 xc):=hide (by rw[←hw1];refine⟨((Mod.refl [] w).alloc _).alloc _,(Blk.new w 43 xc).alloc _,?_⟩;have:=Blk.new (w.alloc (.cells xc 43)) 38 (ecs none 0 0 ev0);rw[World.size_alloc]at this;exact this);rw[hn]at hkl;clear hx hg hv hrl hxc hvv hn hs;go_enter Tryz.func30,Tryz.ntmps30;go_upto_region 1 with fail;rw[show(w.alloc (.cells xc 43)).alloc (.cells #[.int .i64 0,.int .i64 0,.int .u64 0,.int .u64 0,.int .u64 0,.string ⟨#[]⟩,.int .u64 0,.int .u64 0,.int .u64 0,.int .u64 0,.bool false,.string ⟨#[]⟩,.string ⟨#[]⟩,.slice none 0 0] 38)=w1 from hw1];clear hw1;have c3:w1.cell? ⟨w.heap.size,3,none⟩=some (.slice A n c):=(H1.out.x.cell 3).trans (by rw[←HXc.out,←HN.out];rfl);have l1:=H1.out.x.lt;rcases hem (n < 6)with g0 | g0;rotate_left;rcases hem (7 < n)with g1 | g1;rotate_left
 ·have z0:decide ((n:Int) < 6)=false:=decide_eq_false (by have:=g0.out;omega);have z1:decide ((7:Int) < n)=false:=decide_eq_false (by have:=g1.out;omega);go_upto_region 3 with fail;obtain⟨p0,p1,p2,p3,p4,p5,tl,hps⟩:∃p0 p1 p2 p3 p4 p5 tl,l=p0 ::p1 ::p2 ::p3 ::p4 ::p5 ::tl:=by
   have h6:6≤l.length:=by have:=HN.out;have:=g0.out;omega
   match l,h6 with
   | p0 ::p1 ::p2 ::p3 ::p4 ::p5 ::tl,_=>exact⟨p0,p1,p2,p3,p4,p5,tl,rfl⟩
   | [],h=>simp at h
   | [_],h=>simp at h
   | [_,_],h=>simp at h
   | [_,_,_],h=>simp at h
   | [_,_,_,_],h=>simp at h
   | [_,_,_,_,_],h=>simp at h
  subst hps;obtain⟨g,o,hA,hgl, -⟩:=(HRw.out w1 H1.out.m).range (j:=0) (x:=p0) rfl;subst hA;have HRow:Hid (∀(v:World),Mod [] w v→∀j x,(p0 ::p1 ::p2 ::p3 ::p4 ::p5 ::tl)[j]? =some x→v.rangeAt g (o+j * 5) x.cells.toList):=hide (fun v m j x hj=>by obtain⟨g',o',hA,_,h⟩:=(HRw.out v m).range hj;cases hA;exact h);have HRc:Hid (∀(v:World),Mod [] w v→∀j x,(p0 ::p1 ::p2 ::p3 ::p4 ::p5 ::tl)[j]? =some x→∀u,Cls (Mod [] v) u→u.rangeAt g (o+j * 5) x.cells.toList):=hide (fun v m j x hj=>by rintro _ ⟨f,rfl⟩;exact HRow.out _ (m.trans f.ok (by simp)) j x hj);have HI6:Hid (i64B p0.v.i=true∧i64B p1.v.i=true∧i64B p2.v.i=true∧i64B p3.v.i=true∧i64B p4.v.i=true):=hide (by have h:=HRl.out;simp only[JN.vs,jrngs,Bool.and_eq_true]at h;exact⟨jrng_i h.1,jrng_i h.2.1,jrng_i h.2.2.1,jrng_i h.2.2.2.1,jrng_i h.2.2.2.2.1⟩);have i1:=HI6.out.2.1;have i3:=HI6.out.2.2.2.1;have i4:=HI6.out.2.2.2.2;have I1:=hide i1;have I3:=hide i3;have I4:=hide i4;clear i1 i3 i4;have hn6:(5:Int) < n:=by have:=g0.out;omega
  have y3:∀f:Fam (Mod [] w1),f.w.cell? ⟨w.heap.size,3,none⟩=some (.slice (some ⟨g,o,none⟩) n c):=fam_cell0 c3 (by simp);obtain⟨cs,hcs⟩:∃cs,ecs none 0 0 ⟨0,0,rwh p1.v,rwh p3.v,rwh p4.v,p5.v.t,fr0⟩=cs:=⟨_,rfl⟩;have hbd:=r7_built (rwh p1.v) (rwh p3.v) (rwh p4.v) p5.v.t;rw[hcs]at hbd;have HBd:=hide hbd;have HCz:Hid (cs.size=14):=hide (by rw[←hcs];rfl);have HOne:Hid (cs.all (·.oneCell')=true):=hide (by rw[←hcs];exact ecs_one _ _ _ _);have HCs:=hide hcs;clear hbd hcs c3;have HR1:=hide (HRc.out w1 H1.out.m 1 p1 rfl);have HR3:=hide (HRc.out w1 H1.out.m 3 p3 rfl);have HR4:=hide (HRc.out w1 H1.out.m 4 p4 rfl);have y5:∀f:Fam (Mod [] w1),f.w.cell? ⟨g,o+25+2,none⟩=some (.string p5.v.t):=fun f=>by have:=HRow.out f.w (H1.out.m.trans f.ok (by simp)) 5 p5 rfl 2 (.string p5.v.t) (by cases p5;rw[JN.v];rfl);exact this
  refine wp_region_float [] [22] 21 4 38 (ecs none 0 0 ev0) [([0,1,2,3,5,6,7,8,10,11,12,13,15,16,17,18,19],4),([],9),([],14)] [20] [([],22)] [] (by kernel_rfl) (by kernel_rfl) (fun _ _ _ _ _ h=>h) (by simp) (by simp) rfl rfl (fun _ _=>by kernel_rfl) (by simp) ?_;show wpQuiet _ _ _ _ _ _;simp only[gd];(repeat (first | (refine wpQuiet_row rfl 43 _ rfl g (o+1 * 5) rfl p1.cells.toList _ HR1.out rfl rfl (by rw[Array.length_toList,p1.cells_size];kernel_rfl) ?_;simp only[pu]) | (refine wpQuiet_row rfl 43 _ rfl g (o+3 * 5) rfl p3.cells.toList _ HR3.out rfl rfl (by rw[Array.length_toList,p3.cells_size];kernel_rfl) ?_;simp only[pu]) | (refine wpQuiet_row rfl 43 _ rfl g (o+4 * 5) rfl p4.cells.toList _ HR4.out rfl rfl (by rw[Array.length_toList,p4.cells_size];kernel_rfl) ?_;simp only[pu]) | go_big_quiet_step (fail)));refine wpQuiet_nil ?_;intro x9 W9 mh;simp only[pu];have HA:=hide ((Mod.refl [] w1).drew.trans mh (by simp));clear mh y3 y5;iterate 3
   go_wp2_with fail
   first | (refine(r7whole_any _ p1 I1.out).mono ?_;clear I1) | (refine(r7whole_any _ p3 I3.out).mono ?_;clear I3) | (refine(r7whole_any _ p4 I4.out).mono ?_;clear I4)
   rintro e0 v9 ⟨rfl,m9⟩
   have HV:=hide (HA.out.trans m9 (by simp))
   have hm9:=m9
   clear m9
   go_wp2_with fail
   refine PhF.on hm9 ?_
   clear hm9
   show wpQuiet _ _ _ _ _ _
   simp only[gd]
   first | refine wpQuiet_nil ?_ | (refine wpQuiet_built rfl 38 _ rfl [(2,.int .u64 (rwh p1.v:Nat)),(3,.int .u64 (rwh p3.v:Nat)),(4,.int .u64 (rwh p4.v:Nat)),(5,.string p5.v.t)] rfl cs HBd.out ?_;refine wpQuiet_nil ?_)
   first | (rintro _ W9 mh ⟨q,rfl,hqb,hqw⟩) | (intro x9 W9 mh)
   simp only[pu]
   have HA:=hide (HV.out.trans mh (by simp))
   clear mh HV
  have HQ:=hide hqb;have HQw:=hide hqw;clear hqb hqw HR1 HR3 HR4 HBd;show wpQuiet _ _ _ _ _ _;simp only[gd];refine wpQuiet_nil ?_;go_wp2_with (refine wpList_store_whole rfl 38 _ _ rfl rfl q 38 (ecs none 0 0 ev0) cs HQ.out rfl rfl (by rw[HCz.out];kernel_rfl) (by rw[HCz.out];rfl) HOne.out ?_;intro w3 m9 b9 s9;have HQ3:=hide b9;have HM3:=hide (HA.out.trans m9 (fun x hx=> .inr (by simp at hx;rw[hx];exact HQw.out)));have H3:=hide (H1.out.new (HA.out.trans m9 (fun x hx=> .inr (by simp at hx;rw[hx];exact HQw.out))));clear m9 b9 s9);refine Ph.on (fun h=>by cases h) ?_;show wpQuiet _ _ _ _ _ _;simp only[gd];refine wpQuiet_nil ?_;have HQq:Hid (w.heap.size+1 < q):=hide (by have:=HQw.out;have:=H1.out.r.lt;omega);clear HA HQ HOne l1;have I0:=hide HI6.out.1;have I2:=hide HI6.out.2.2.1;obtain⟨k0,hk0⟩:∃n,rwh p0.v=n:=⟨_,rfl⟩;obtain⟨k2,hk2⟩:∃n,rwh p2.v=n:=⟨_,rfl⟩;have HW0:=hide (fun v=>r7whole_any v p0 I0.out);have HW2:=hide (fun v=>r7whole_any v p2 I2.out);rw[hk0]at HW0;rw[hk2]at HW2;have HK0:=hide hk0;have HK2:=hide hk2;clear hk0 hk2;go_upto_region 4 with fail;go_cut [55] (fun b wx=>b=.bool (decide (k0 < 100) && decide (k2 < 100))∧Hid (Mod [] w3 wx))
  case first=>
   have c3:w3.cell? ⟨w.heap.size,3,none⟩=some (.slice (some ⟨g,o,none⟩) n c):=(H3.out.x.cell 3).trans (by rw[←HXc.out,←HN.out];rfl);have l3:=H3.out.x.lt;have R0:=hide (HRow.out w3 H3.out.m 0 p0 rfl);rcases hem (k0 < 100)with s0 | s0
   ·have z0:decide ((k0:Int) < 100)=true:=decide_eq_true (by have:=s0.out;omega);have y0:decide (k0 < 100)=true:=decide_eq_true s0.out;have HD:Hid (decide ((k2:Int) < 100)=decide (k2 < 100)):=hide (decide_eq_decide.2 (by omega));go_wp2_with (refine wpList_load_mid rfl 43 _ rfl g (o+0 * 5) rfl p0.cells.toList _ R0.out rfl rfl (by rw[Array.length_toList,p0.cells_size];kernel_rfl) ?_);refine(HW0.out _).mono ?_;rintro e0 v5 ⟨rfl,m5⟩;have H5:=hide (H3.out.new m5);have HM5:=hide m5;have c5:v5.cell? ⟨w.heap.size,3,none⟩=some (.slice (some ⟨g,o,none⟩) n c):=(H5.out.x.cell 3).trans (by rw[←HXc.out,←HN.out];rfl);have l5:=H5.out.x.lt;have R2:=hide (HRow.out v5 H5.out.m 2 p2 rfl);clear m5 c3 l3;go_wp2_with (refine wpList_load_want (by kernel_rfl) 43 _ rfl g (o+2 * 5) rfl p2.cells.toList _ R2.out rfl rfl (by rw[Array.length_toList,p2.cells_size];kernel_rfl) ?_);refine(HW2.out _).mono ?_;rintro e0 v6 ⟨rfl,m6⟩;have HM6:=hide (HM5.out.trans m6 (by simp));clear m6;go_wp2_with fail;go_meet;exact⟨by rw[y0,Bool.true_and,HD.out],HM6⟩
   ·have z0:decide ((k0:Int) < 100)=false:=decide_eq_false (by have:=s0.out;omega);have y0:decide (k0 < 100)=false:=decide_eq_false s0.out;go_wp2_with (refine wpList_load_mid rfl 43 _ rfl g (o+0 * 5) rfl p0.cells.toList _ R0.out rfl rfl (by rw[Array.length_toList,p0.cells_size];kernel_rfl) ?_);refine(HW0.out _).mono ?_;rintro e0 v5 ⟨rfl,m5⟩;have HM5:=hide m5;clear m5;go_wp2_with fail;go_meet;exact⟨by rw[y0,Bool.false_and],HM5⟩
  case rest=>
   obtain⟨hb,hmc⟩:=hcut;obtain⟨sm,hsm⟩:∃b,(decide (k0 < 100) && decide (k2 < 100))=b:=⟨_,rfl⟩;have HSm:=hide hsm;rw[hsm]at hb;subst hb;clear hsm;have HC:=hide (H3.out.new hmc.out);have HQc:=hide (hmc.out.blk HQ3.out (by simp));have HMc:=hide (HM3.out.trans hmc.out (by simp));go_upto_if 55 with fail;go_cut [55] (fun _ wx=>Hid (Mod [] w1 wx)∧Hid (Blk wx q 38 (ecs none 0 0 ⟨if sm then(k0:Int)else 0,if sm then(k2:Int)else 0,rwh p1.v,rwh p3.v,rwh p4.v,p5.v.t,fr0⟩)))
   case first=>
    have HQf:Hid (Blk wc q 38 (ecs none 0 0 ⟨0,0,rwh p1.v,rwh p3.v,rwh p4.v,p5.v.t,fr0⟩)):=hide (by rw[HCs.out];exact HQc.out);cases sm with
    | false=>go_wp2_with fail;go_meet;exact⟨HMc,HQf⟩
    | true=>have hs:=HSm.out;rw[Bool.and_eq_true,decide_eq_true_eq,decide_eq_true_eq]at hs;have q0:IntKind.i64.wrap (k0:Int)=(k0:Int):=IntWalk.i64_in _ (by omega);have q2:IntKind.i64.wrap (k2:Int)=(k2:Int):=IntWalk.i64_in _ (by omega);have c3:wc.cell? ⟨w.heap.size,3,none⟩=some (.slice (some ⟨g,o,none⟩) n c):=(HC.out.x.cell 3).trans (by rw[←HXc.out,←HN.out];rfl);have l3:=HC.out.x.lt;have R0:=hide (HRow.out wc HC.out.m 0 p0 rfl);clear hs;go_wp2_with (refine wpList_load_mid rfl 43 _ rfl g (o+0 * 5) rfl p0.cells.toList _ R0.out rfl rfl (by rw[Array.length_toList,p0.cells_size];kernel_rfl) ?_);refine(HW0.out _).mono ?_;rintro e0 v5 ⟨rfl,m5⟩;have b5:=m5.blk HQf.out (by simp);have d0:v5.cell? ⟨q,0,none⟩=some (.int .i64 0):=b5.cell 0;have f0:v5.frozen? ⟨q,0,none⟩=false:=b5.frozen 0;have l5:=b5.lt;obtain⟨w6,hw6⟩:∃x,v5.setCell ⟨q,0,none⟩ (.int .i64 (k0:Int))=x:=⟨_,rfl⟩;have HM6:Hid (Mod [] w1 w6):=hide (by rw[←hw6];exact(HMc.out.trans m5 (by simp)).setCell (p:=⟨q,0,none⟩) (.inr HQw.out) _);have HQ6:Hid (Blk w6 q 38 (ecs none 0 0 ⟨(k0:Int),0,rwh p1.v,rwh p3.v,rwh p4.v,p5.v.t,fr0⟩)):=hide (by rw[←hw6];exact b5.set_ 0 (.int .i64 (k0:Int)));have H6:=hide (H1.out.new HM6.out);have c6:w6.cell? ⟨w.heap.size,3,none⟩=some (.slice (some ⟨g,o,none⟩) n c):=(H6.out.x.cell 3).trans (by rw[←HXc.out,←HN.out];rfl);have l6:=H6.out.x.lt;have R2:=hide (HRow.out w6 H6.out.m 2 p2 rfl);clear m5 b5 c3 l3;go_wp2_with (refine wpList_load_mid rfl 43 _ rfl g (o+2 * 5) rfl p2.cells.toList _ R2.out rfl rfl (by rw[Array.length_toList,p2.cells_size];kernel_rfl) ?_);refine(HW2.out _).mono ?_;rintro e0 v7 ⟨rfl,m7⟩;have b7:=m7.blk HQ6.out (by simp);have d1:v7.cell? ⟨q,1,none⟩=some (.int .i64 0):=b7.cell 1;have f1:v7.frozen? ⟨q,1,none⟩=false:=b7.frozen 1;have l7:=b7.lt;obtain⟨w8,hw8⟩:∃x,v7.setCell ⟨q,1,none⟩ (.int .i64 (k2:Int))=x:=⟨_,rfl⟩;have HM8:Hid (Mod [] w1 w8):=hide (by rw[←hw8];exact(HM6.out.trans m7 (by simp)).setCell (p:=⟨q,1,none⟩) (.inr HQw.out) _);have HQ8:Hid (Blk w8 q 38 (ecs none 0 0 ⟨(k0:Int),(k2:Int),rwh p1.v,rwh p3.v,rwh p4.v,p5.v.t,fr0⟩)):=hide (by rw[←hw8];exact b7.set_ 1 (.int .i64 (k2:Int)));clear m7 b7 c6 l6 hw6 d0 f0 l5;go_wp2_with fail;go_meet;exact⟨HM8,HQ8⟩
   case rest=>
    obtain⟨hm4,hq4⟩:=hcut;clear HC HQc HMc H3 HQ3 HM3 hmc HCs HCz;have H4:=hide (H1.out.new hm4.out)
    have HE0:Hid (⟨if sm then(k0:Int)else 0,if sm then(k2:Int)else 0,rwh p1.v,rwh p3.v,rwh p4.v,p5.v.t,fr0⟩=rev0 vv fr0):=hide (by
     have hs:rsmall vv=sm:=by
      rw[←HSm.out,←HK0.out,←HK2.out,←HVv.out]
      rfl
     unfold rev0
     rw[hs,←HK0.out,←HK2.out,←HVv.out]
     rfl)
    rw[HE0.out]at hq4;clear HSm HE0;have c4:wc.cell? ⟨w.heap.size,3,none⟩=some (.slice (some ⟨g,o,none⟩) n c):=(H4.out.x.cell 3).trans (by rw[←HXc.out,←HN.out];rfl);have l4:=H4.out.x.lt;go_upto_if 73 with fail;go_cut [73] (fun _ wx=>∃(A':Option Addr) (c':Nat) (E:Ev),Hid (rev vv=some E)∧Hid (Mod [] w1 wx)∧Hid (Blk wx q 38 (ecs A' E.f.list.length c' E))∧Hid (ROwn wx w.heap.size A' c' E.f.list)∧Hid (E.f.list.length≤140737488355328))
    case first=>
     rcases hem (n=7)with h7 | h7
     ·have z7:((n:Int)==7)=true:=by have:=h7.out;simp;omega
      obtain⟨p6,htl⟩:∃p6,tl= [p6]:=by
       have h:=HN.out;have h9:=h7.out
       match tl,h with
       | [p6],_=>exact⟨p6,rfl⟩
       | [],h=>simp at h;omega
       | _ ::_ ::_,h=>simp at h;omega
      subst htl;obtain⟨k6,i6,t6,fA,fc,fl,fB,fd,fks⟩:=p6;obtain⟨m,hm⟩:∃m,fl.length=m:=⟨_,rfl⟩;have HFn:=hide hm;have y6:wc.cell? ⟨g,o+30+3,none⟩=some (.slice fA m fc):=HRow.out wc H4.out.m 6 _ rfl 3 (.slice fA m fc) (by rw[←hm];rfl);have HVf:Hid ((jat vv 6).l=JN.vs fl):=hide (by rw[←HVv.out];rfl);have hn6':(6:Int) < n:=by have:=h7.out;omega
      clear hm;rcases hem (m=8)with h8 | h8
      ·have z8:((m:Int) !=8)=false:=by have:=h8.out;simp;omega
       obtain⟨f0,f1,f2,f3,f4,f5,f6,f7,hfs⟩:∃f0 f1 f2 f3 f4 f5 f6 f7,fl= [f0,f1,f2,f3,f4,f5,f6,f7]:=by
        have h8':fl.length=8:=by rw[HFn.out];exact h8.out
        match fl,h8' with
        | [f0,f1,f2,f3,f4,f5,f6,f7],_=>exact⟨f0,f1,f2,f3,f4,f5,f6,f7,rfl⟩
       subst hfs;have HIf:=hide (fun v (hv:Mod [] w v)=>(HIs.out v hv).at_ (j:=6) rfl);obtain⟨g6,o6,hA6,hg6, -⟩:=(HIf.out wc H4.out.m).row.range (j:=0) (x:=f0) rfl;subst hA6;have HFrow:Hid (∀(v:World),Mod [] w v→∀j x,[f0,f1,f2,f3,f4,f5,f6,f7][j]? =some x→v.rangeAt g6 (o6+j * 5) x.cells.toList):=hide (fun v hv j x hj=>by obtain⟨g',o',hA,_,h⟩:=(HIf.out v hv).row.range hj;cases hA;exact h);have HFc:Hid (∀(v:World),Mod [] w v→∀j x,[f0,f1,f2,f3,f4,f5,f6,f7][j]? =some x→∀u,Cls (Mod [] v) u→u.rangeAt g6 (o6+j * 5) x.cells.toList):=hide (fun v hv j x hj=>by rintro _ ⟨f,rfl⟩;exact HFrow.out _ (hv.trans f.ok (by simp)) j x hj);have HIi:Hid (i64B f0.v.i=true∧i64B f1.v.i=true∧i64B f2.v.i=true∧i64B f3.v.i=true):=hide (by have h:=HRl.out;simp only[JN.vs,JN.v,jrngs,jrng,Bool.and_eq_true]at h;have h:=h.2.2.2.2.2.2.1.2;exact⟨jrng_i h.1,jrng_i h.2.1,jrng_i h.2.2.1,jrng_i h.2.2.2.1⟩);have HF0:=hide (HFc.out wc H4.out.m 0 f0 rfl);have HF1:=hide (HFc.out wc H4.out.m 1 f1 rfl);have HF2:=hide (HFc.out wc H4.out.m 2 f2 rfl);have HF3:=hide (HFc.out wc H4.out.m 3 f3 rfl);have y4:∀f:Fam (Mod [] wc),f.w.cell? ⟨g6,o6+20,none⟩=some (.int .i64 f4.v.k):=fun f=>HFrow.out f.w (H4.out.m.trans f.ok (by simp)) 4 f4 rfl 0 _ (by cases f4;rw[JN.v];rfl);have y5:∀f:Fam (Mod [] wc),f.w.cell? ⟨g6,o6+25+2,none⟩=some (.string f5.v.t):=fun f=>HFrow.out f.w (H4.out.m.trans f.ok (by simp)) 5 f5 rfl 2 _ (by cases f5;rw[JN.v];rfl);have y6':∀f:Fam (Mod [] wc),f.w.cell? ⟨g6,o6+30+2,none⟩=some (.string f6.v.t):=fun f=>HFrow.out f.w (H4.out.m.trans f.ok (by simp)) 6 f6 rfl 2 _ (by cases f6;rw[JN.v];rfl);have hm8:(7:Int) < m:=by have:=h8.out;omega
       obtain⟨fb,hfb⟩:∃b,(f4.v.k==(2:Int))=b:=⟨_,rfl⟩;have HFb:Hid (decide (f4.v.k=2)=fb):=hide (by rw[←hfb];rfl);go_upto_region 11 with fail;refine wp_region_planT (Mod [] wc) [31] [([0,1,2,4,5,6,8,9,10,12,13,14,16,17,18,19,20,21,22,23,24,25,26,27,28],3),([],7),([],11),([],15),([29,30],31)] [] (by kernel_rfl) (by kernel_rfl) (fun _ _ _ _ _ h=>h) ((Mod.refl [] wc).drew) ?_;show wpQuiet _ _ _ _ _ _;simp only[gd];(repeat (first | (refine wpQuiet_row rfl 43 _ rfl g6 (o6+0 * 5) rfl f0.cells.toList _ HF0.out rfl rfl (by rw[Array.length_toList,f0.cells_size];kernel_rfl) ?_;simp only[pu]) | (refine wpQuiet_row rfl 43 _ rfl g6 (o6+1 * 5) rfl f1.cells.toList _ HF1.out rfl rfl (by rw[Array.length_toList,f1.cells_size];kernel_rfl) ?_;simp only[pu]) | (refine wpQuiet_row rfl 43 _ rfl g6 (o6+2 * 5) rfl f2.cells.toList _ HF2.out rfl rfl (by rw[Array.length_toList,f2.cells_size];kernel_rfl) ?_;simp only[pu]) | (refine wpQuiet_row rfl 43 _ rfl g6 (o6+3 * 5) rfl f3.cells.toList _ HF3.out rfl rfl (by rw[Array.length_toList,f3.cells_size];kernel_rfl) ?_;simp only[pu]) | go_big_quiet_step (fail)));refine wpQuiet_nil ?_;clear y4 y5 y6' hfb;have J0:=hide HIi.out.1;have J1:=hide HIi.out.2.1;have J2:=hide HIi.out.2.2.1;have J3:=hide HIi.out.2.2.2;have HV:=hide ((Mod.refl [] wc).drew);iterate 4
        go_wp2_with fail
        first | (refine(r7whole_any _ f0 J0.out).mono ?_;clear J0) | (refine(r7whole_any _ f1 J1.out).mono ?_;clear J1) | (refine(r7whole_any _ f2 J2.out).mono ?_;clear J2) | (refine(r7whole_any _ f3 J3.out).mono ?_;clear J3)
        rintro e0 v9 ⟨rfl,m9⟩
        have HV:=hide (HV.out.trans m9 (by simp))
        clear m9
        go_wp2_with fail
        refine Ph.on (fun _=>HV.out) ?_
        show wpQuiet _ _ _ _ _ _
        simp only[gd]
        first | refine wpQuiet_nil ?_ | (refine wpQuiet_built rfl 36 _ rfl [(0,.int .u64 (rwh f0.v:Nat)),(1,.int .u64 (rwh f1.v:Nat)),(2,.int .u64 (rwh f2.v:Nat)),(3,.int .u64 (rwh f3.v:Nat)),(4,.bool fb),(5,.string f5.v.t),(6,.string f6.v.t)] rfl (fcs none 0 0 ⟨rwh f0.v,rwh f1.v,rwh f2.v,rwh f3.v,fb,f5.v.t,f6.v.t,[]⟩) (r7f_built _ _ _ _ _ _ _) ?_;simp only[pu];(repeat (go_big_quiet_step (fail)));refine wpQuiet_nil ?_)
       have HM9:=hide (hm4.out.trans HV.out (by simp));have HQ9:=hide (HV.out.blk hq4.out (by simp));clear HF0 HF1 HF2 HF3 HV H4 hm4 hq4 HFc HIi;obtain⟨k7,i7,t7,A7,e7,l7,B7,d7,ks7⟩:=f7;obtain⟨F8,hF8⟩:∃f:Fr,(⟨rwh f0.v,rwh f1.v,rwh f2.v,rwh f3.v,fb,f5.v.t,f6.v.t,[]⟩:Fr)=f:=⟨_,rfl⟩;obtain⟨fc8,hfc8⟩:∃x,fcs none 0 0 F8=x:=⟨_,rfl⟩;rw[hF8,hfc8];have HPt:Hid (setsAt (ecs none 0 0 (rev0 vv fr0)) 6 fc8.toList=ecs none 0 0 (rev0 vv F8)):=hide (by rw[←hfc8];exact r7_put _ _ _ _ _);have HFz:Hid (fc8.size=8):=hide (by rw[←hfc8];rfl);have HFt:Hid (6+fc8.size≤(ecs none 0 0 (rev0 vv fr0)).size):=hide (by rw[HFz.out];show 6+8≤14;omega);have HF1:Hid (fc8.all (·.oneCell')=true):=hide (by rw[←hfc8];simp[fcs,Value.oneCell']);obtain⟨K,hK⟩:∃K,l7.length=K:=⟨_,rfl⟩;have HK:=hide hK;have HVg:Hid ((jat (jat vv 6) 7).l=JN.vs l7):=hide (by unfold jat;rw[show(List.getD vv.l 6 jv0).l=_ from HVf.out];simp[JN.vs,JN.v,JV.l]);have HRf:Hid (rfrm (jat vv 6)= { F8 with list:=(JN.vs l7).map rpair }):=hide (by have e:jat vv 6=.mk k6 i6 t6 (JN.vs [f0,f1,f2,f3,f4,f5,f6,.mk k7 i7 t7 A7 e7 l7 B7 d7 ks7]) fks:=(by rw[←HVv.out];unfold jat JV.l;simp only[JN.vs,List.getD_cons_zero,List.getD_cons_succ];rw[JN.v];simp only[JN.vs]);rw[e,←hF8,←HFb.out];unfold rfrm jat JV.l;simp only[JN.vs,List.getD_cons_zero,List.getD_cons_succ];rw[JN.v]);have HKz:Hid (K≤100000000):=hide (by have:=HSz.out;rw[HVg.out,JN.vs_len,hK]at this;exact this);have HJ7:Hid (jrngs (JN.vs l7)=true):=hide (by have h:=HRl.out;simp only[JN.vs,JN.v,jrngs,jrng,Bool.and_eq_true]at h;exact h.2.2.2.2.2.2.1.2.2.2.2.2.2.2.2.1.2);have HI7:=hide (fun v (hv:Mod [] w v)=>(HIf.out v hv).ins.at_ (j:=7) rfl);clear hF8 hfc8 hK;go_wp2_with (refine wpList_store_part rfl 36 _ _ rfl rfl q 6 38 (ecs none 0 0 (rev0 vv fr0)) (ecs none 0 0 (rev0 vv F8)) fc8 HQ9.out rfl rfl (by rw[HFz.out];kernel_rfl) HFt.out HPt.out HF1.out ?_;intro v11 m11 b11 s11;have HQ11:=hide b11;have HM11:=hide (HM9.out.trans m11 (fun x hx=> .inr (by simp at hx;rw[hx];exact HQw.out)));clear m11 b11 s11);refine Ph.on (fun h=>by cases h) ?_;show wpQuiet _ _ _ _ _ _;simp only[gd];refine wpQuiet_nil ?_;go_wp2_with fail;clear HPt HFz HFt HF1 HM9 HQ9;go_loopw [6] (fun iv wr=>∃(j:Nat) (A':Option Addr) (c':Nat),iv=.int .i64 (j:Int)∧j≤K∧Hid (Mod [] w1 wr)∧Hid (Blk wr q 38 (ecs A' j c' (rev0 vv F8)))∧Hid (ROwn wr w1.heap.size A' c' ((JN.vs (l7.take j)).map rpair))∧Hid ((JN.vs (l7.take j)).any (fun x=>decide (x.l.length≠2))=false)) (fun iv _=>K - (intOf iv).toNat)
       case atStart=>exact⟨0,none,0,rfl,Nat.zero_le _,HM11,HQ11,hide (by rw[List.take_zero,JN.vs];exact ROwn.nil _ _),hide (by rw[List.take_zero,JN.vs];rfl)⟩
       case round=>
        clear HM11 HQ11;obtain⟨j,A',c',rfl,hj,hm,hq,ho,hsh⟩:=hrel;have hKb:=HKz.out;have Hr:=hide (H1.out.new hm.out);have c7:wr.cell? ⟨g6,o6+35+3,none⟩=some (.slice A7 K e7):=HFrow.out wr Hr.out.m 7 _ rfl 3 (.slice A7 K e7) (by rw[←HK.out];rfl);by_cases hlt:j < K
        ·obtain⟨y,hy⟩:∃y,l7[j]? =some y:=⟨_,List.getElem?_eq_getElem (by have:=HK.out;omega)⟩;obtain⟨g7,o7,hA7, -, -⟩:=(HI7.out w (Mod.refl _ _)).row.range hy;subst hA7;have hry:=(HI7.out wr Hr.out.m).row.range hy;obtain⟨g7',o7',hA7', -,hrg7⟩:=hry;cases hA7';have HYi:=hide ((HI7.out w (Mod.refl _ _)).ins.at_ hy);have HYj:=hide (jrngs_at HJ7.out (i:=j) (x:=y.v) (by rw[JN.vs_at,hy];rfl));have HSn:=hide (vs_snoc hy);have HBad:=hide (fun h=>any_bad (l:=l7) hy h);have hlj:((JN.vs (l7.take j)).map rpair).length=j:=(by rw[List.length_map,JN.vs_len,List.length_take];have:=HK.out;omega);have HLj:=hide hlj;obtain⟨yk,yi,yt,yA,yc,yl,yB,yd,yks⟩:=y;obtain⟨yn,hyn⟩:∃yn,yl.length=yn:=⟨_,rfl⟩;have HYn:=hide hyn;have HYv:Hid ((JN.mk yk yi yt yA yc yl yB yd yks).v=.mk yk yi yt (JN.vs yl) yks):=hide (by rw[JN.v]);have c8:wr.cell? ⟨g7,o7+j * 5+3,none⟩=some (.slice yA yn yc):=hrg7 3 (.slice yA yn yc) (by rw[←hyn];rfl);clear hy hrg7 hlj hyn;rcases hem (yn=2)with h2 | h2
         ·have z2:((yn:Int) !=2)=false:=by have:=h2.out;simp;omega
          obtain⟨p,r,hpr⟩:∃p r,yl= [p,r]:=by
           match yl,HYn.out.trans h2.out with
           | [p,r],_=>exact⟨p,r,rfl⟩
          subst hpr;obtain⟨g2,o2,hyA,hg2,hrp⟩:=HYi.out.row.range (j:=0) (x:=p) rfl;obtain⟨g2',o2',hyA',_,hrq⟩:=HYi.out.row.range (j:=1) (x:=r) rfl;subst hyA;cases hyA';have hji:=HYj.out;rw[HYv.out,jrng,Bool.and_eq_true,JN.vs,JN.vs,JN.vs,jrngs,jrngs,Bool.and_eq_true,Bool.and_eq_true]at hji;have I0:=hide (jrng_i hji.2.1);have I1:=hide (jrng_i hji.2.2.1);obtain⟨F,hF⟩:∃F,(Value.slice A' j c').ownBlock.toList=F:=⟨_,rfl⟩;have hob:=ho.out.out_ HLj.out hq.out (by decide);rw[hF]at hob;have hWv:∀v,Mod F wr v→Mod [] w v:=fun v m=>Hr.out.m.trans m (fun x hx=> .inr (by have:=(hob x hx).1;have:=H1.out.m.size;omega));have HRp:=hide (row_cls (S:=Mod F wr) hrp hg2 hWv);have HRq:=hide (row_cls (S:=Mod F wr) hrq hg2 hWv);have y13:∀i:Fam (Mod F wr),i.w.cell? ⟨q,13,none⟩=some (.slice A' j c'):=fam_cell0 (hq.out.cell 13) (fun h=>(hob q h).2.2 rfl);have HFe:=hide hF;have HFo:=hide hob;have hn2:(1:Int) < yn:=by have:=h2.out;omega
          clear hrp hrq hF hob hWv hji;go_upto_region 18 with fail;clear c7 c8;refine wp_region_plan (Mod F wr) [16] [([0,1,2,3,4,5,7,8,9],6),([],10),([11],12),([],13),([14,15],16)] [] (by kernel_rfl) (by kernel_rfl) (fun _ _ _ _ _ h=>h) ((Mod.refl _ wr).drew) ?_;show wpQuiet _ _ _ _ _ _;simp only[gd];(repeat (first | (refine wpQuiet_row rfl 43 _ rfl g2 (o2+0 * 5) rfl p.cells.toList _ HRp.out rfl rfl (by rw[Array.length_toList,p.cells_size];kernel_rfl) ?_;simp only[pu]) | (refine wpQuiet_row rfl 43 _ rfl g2 (o2+1 * 5) rfl r.cells.toList _ HRq.out rfl rfl (by rw[Array.length_toList,r.cells_size];kernel_rfl) ?_;simp only[pu]) | go_big_quiet_step (fail)));refine wpQuiet_nil ?_;clear y13 HRp HRq;have HC:=hide ((Mod.refl [] wr).drew);iterate 2
           go_wp2_with fail
           first | (refine(r7whole_any _ p I0.out).mono ?_;clear I0) | (refine(r7whole_any _ r I1.out).mono ?_;clear I1)
           rintro e0 w5 ⟨rfl,m5⟩
           have HC:=hide (HC.out.trans m5 (by simp))
           clear m5
           go_wp2_with fail
           refine Ph.on (fun _=>HC.out.mono (by simp)) ?_
           show wpQuiet _ _ _ _ _ _
           simp only[gd]
           repeat (go_big_quiet_step (fail))
           refine wpQuiet_nil ?_
          go_wp2_with (refine wpList_laid rfl 34 77 1 _ rfl _ rfl Tryz.underlying34 (.agg #[.int .u64 0,.int .u64 0]) 2 rzinfo (by decide) (by decide) [(0,.agg #[.int .u64 (rwh p.v:Nat),.int .u64 (rwh r.v:Nat)])] rfl (rcells (rwh p.v,rwh r.v)).toArray (by kernel_rfl) ?_;intro w6 m6 b6 s6;have HC6:=hide (HC.out.trans m6 (by simp));have HN6:=hide b6;clear m6 b6 s6);refine Ph.on (fun _=>HC6.out.mono (by simp)) ?_;show wpQuiet _ _ _ _ _ _;simp only[gd];refine wpQuiet_nil ?_;have HQ6:=hide (HC6.out.blk hq.out (by simp));obtain⟨A2,c2,w7,hrun,hown,hm7⟩:=(ho.out.new2 HC6.out).app (by have:=hm.out.size;have:=HC6.out.size;omega) (by rw[HLj.out];have:=HKz.out;omega) (rwh p.v,rwh r.v) _ HN6.out;rw[HLj.out]at hrun hm7;rw[HFe.out]at hm7;have HQ7:=hide (hm7.blk HQ6.out (fun h=>(HFo.out q h).2.2 rfl));have hc7:Mod F wr w7:=(HC6.out.mono (by simp)).trans hm7 (fun x hx=> .inl hx);have HC7:=hide hc7;have HRun:=hide hrun;have HO7:=hide hown;clear hrun hown hm7 hc7 HQ6 HN6 HC;go_wp2_with (at_builtin;refine Lib.wpList_append_run _ rfl (.tmp 137) (.tmp 147) 34 34 rfl (.slice A' j c') (.slice (some ⟨w5.heap.size,0,none⟩) 1 1) rfl rfl _ w7 HRun.out ?_);refine Ph.on (fun _=>HC7.out) ?_;show wpQuiet _ _ _ _ _ _;simp only[gd];(repeat (go_big_quiet_step (fail)));refine wpQuiet_nil ?_;have d13:w7.cell? ⟨q,13,none⟩=some (.slice A' j c'):=HQ7.out.cell 13;have f13:w7.frozen? ⟨q,13,none⟩=false:=HQ7.out.frozen 13;have lq:=HQ7.out.lt;obtain⟨w8,hw8⟩:∃x,w7.setCell ⟨q,13,none⟩ (.slice A2 (j+1) c2)=x:=⟨_,rfl⟩;have HQ8:Hid (Blk w8 q 38 (ecs A2 (j+1) c2 (rev0 vv F8))):=hide (by rw[←hw8,←r7_list A' A2 j c' (j+1) c2 vv F8];exact HQ7.out.set_ 13 _);have HM8:Hid (Mod [] w1 w8):=hide (by rw[←hw8];exact(hm.out.trans HC7.out (fun x hx=> .inr (HFo.out x hx).1)).setCell (p:=⟨q,13,none⟩) (.inr HQw.out) _);have HO8:=hide (HO7.out.mod ((Mod.refl [q] w7).setCell (p:=⟨q,13,none⟩) (.inl (by simp)) (.slice A2 (j+1) c2)) (fun g' o' e h=>by simp at h;exact HO7.out.ne HQ7.out (by decide) g' o' e h));rw[hw8]at HO8;have HGp:Hid (rpair (.mk yk yi yt (JN.vs [p,r]) yks)=(rwh p.v,rwh r.v)):=hide (by unfold rpair jat JV.l;rw[JN.vs,JN.vs,JN.vs];rfl);have HSz2:Hid ((.mk yk yi yt (JN.vs [p,r]) yks:JV).l.length=2):=hide (by unfold JV.l;rw[JN.vs_len];rfl);clear HRun HO7 HC7 HQ7;go_wp2_with fail;refine Ph.on (fun h=>by cases h) ?_;show wpQuiet _ _ _ _ _ _;simp only[gd];refine wpQuiet_nil ?_;clear d13 f13 lq hw8;go_wp2_with fail;go_roundw
          case rel=>exact⟨j+1,A2,c2,by go_num,by omega,HM8,HQ8,hide (by rw[HSn.out,List.map_append,HYv.out,List.map_cons,List.map_nil,HGp.out];exact HO8.out),hide (by rw[HSn.out,List.any_append,hsh.out,HYv.out,List.any_cons,HSz2.out];rfl)⟩
          case measure=>simp[intOf];omega
         ·have z2:((yn:Int) !=2)=true:=by have:=h2.out;simp;omega
          have HNo:Hid (eof vv=none):=hide (by rw[←r7of_eq];unfold r7of rev;rw[if_neg (by rw[HL.out];have:=g0.out;have:=g1.out;omega),if_pos (by rw[HL.out];exact h7.out),if_pos (.inr (by rw[HVg.out];exact HBad.out (by rw[HYv.out];show(JN.vs yl).length≠2;rw[JN.vs_len,HYn.out];exact h2.out)))]);go_wp2_with (refine wpList_store_whole rfl 38 _ _ rfl rfl (w.heap.size+1) 38 (ecs none 0 0 ev0) (ecs none 0 0 ev0) Hr.out.r rfl rfl (by kernel_rfl) rfl (by kernel_rfl) ?_;intro w9 m9 b9 s9;have HM9:=hide (Hr.out.m.trans m9 (by intro x hx;right;simp at hx;omega));have HB9:=hide b9;clear m9 b9 s9);refine bodyPost_ret (results_cell_tmp_row rfl _ _ (w.heap.size+1) 38 (ecs none 0 0 ev0) _ rfl HB9.out Tryz.underlying38 rfl (by kernel_rfl)) rfl ?_;exact OfPost.no HNo.out HM9.out
        ·have hiin:decide (j < K)=false:=decide_eq_false hlt;have hjk:j=K:=by omega
         have HRv:Hid (rev vv=some (rev0 vv (rfrm (jat vv 6)))):=hide (by
          unfold rev
          rw[if_neg (by rw[HL.out];have:=g0.out;have:=g1.out;omega),if_pos (by rw[HL.out];exact h7.out),if_neg (by
           rintro (h | h)
           ·exact h (by rw[HVf.out,JN.vs_len,HFn.out];exact h8.out)
           ·rw[HVg.out]at h
            have h3:=hsh.out
            rw[List.take_of_length_le (by rw[HK.out];omega),h]at h3
            cases h3)])
         have HEl:Hid ((rev0 vv (rfrm (jat vv 6))).f.list=(JN.vs l7).map rpair):=hide (by unfold rev0;rw[HRf.out]);have HEn:Hid ((rev0 vv (rfrm (jat vv 6))).f.list.length=K):=hide (by rw[HEl.out,List.length_map,JN.vs_len,HK.out]);have HQz:Hid (Blk wr q 38 (ecs A' (rev0 vv (rfrm (jat vv 6))).f.list.length c' (rev0 vv (rfrm (jat vv 6))))):=hide (by rw[HEn.out,HRf.out,←hjk];exact hq.out);have HOz:Hid (ROwn wr w.heap.size A' c' (rev0 vv (rfrm (jat vv 6))).f.list):=hide (by rw[HEl.out];have h3:=ho.out;rw[List.take_of_length_le (by rw[HK.out];omega)]at h3;exact h3.base H1.out.m.size);have HLz:Hid ((rev0 vv (rfrm (jat vv 6))).f.list.length≤140737488355328):=hide (by rw[HEn.out];have:=HKz.out;omega);clear hjk hlt;go_wp2_with fail;go_meet;exact⟨A',c',rev0 vv (rfrm (jat vv 6)),HRv,hm,HQz,HOz,HLz⟩
      ·have z8:((m:Int) !=8)=true:=by have:=h8.out;simp;omega
       have HNo:Hid (eof vv=none):=hide (by rw[←r7of_eq];unfold r7of rev;rw[if_neg (by rw[HL.out];have:=g0.out;have:=g1.out;omega),if_pos (by rw[HL.out];exact h7.out),if_pos (.inl (by rw[HVf.out,JN.vs_len,HFn.out];exact h8.out))]);go_wp2_with (refine wpList_store_whole rfl 38 _ _ rfl rfl (w.heap.size+1) 38 (ecs none 0 0 ev0) (ecs none 0 0 ev0) H4.out.r rfl rfl (by kernel_rfl) rfl (by kernel_rfl) ?_;intro w9 m9 b9 s9;have HM9:=hide (H4.out.m.trans m9 (by intro x hx;right;simp at hx;omega));have HB9:=hide b9;clear m9 b9 s9);refine bodyPost_ret (results_cell_tmp_row rfl _ _ (w.heap.size+1) 38 (ecs none 0 0 ev0) _ rfl HB9.out Tryz.underlying38 rfl (by kernel_rfl)) rfl ?_;exact OfPost.no HNo.out HM9.out
     ·have z7:((n:Int)==7)=false:=by have:=h7.out;rw[beq_eq_false_iff_ne];omega
      have HRv:Hid (rev vv=some (rev0 vv fr0)):=hide (by unfold rev;rw[if_neg (by rw[HL.out];have:=g0.out;have:=g1.out;omega),if_neg (by rw[HL.out];exact h7.out)]);have HZ:Hid (ROwn wc w.heap.size none 0 fr0.list):=hide (ROwn.nil _ _);go_wp2_with fail;go_meet;exact⟨none,0,rev0 vv fr0,HRv,hm4,hq4,HZ,hide (Nat.zero_le _)⟩
    case rest=>
     obtain⟨A',c',E,hrv,hm5,hq5,hro,hle⟩:=hcut;clear c4 l4 H4 hm4 hq4;have H5:=hide (H1.out.new hm5.out);obtain⟨ec,hec⟩:∃ec,ecs A' E.f.list.length c' E=ec:=⟨_,rfl⟩;have HEz:Hid (ec.size=14):=hide (by rw[←hec];rfl);have HOe:Hid (ec.all (·.oneCell')=true):=hide (by rw[←hec];exact ecs_one _ _ _ _);have HEc:=hide hec;have hval:=r7value_any wc A' c' E (hro.out.rngs (by have:=hle.out;omega));unfold evval at hval;rw[hec]at hval hq5;obtain⟨mv,hmv⟩:∃b,emay E=b:=⟨_,rfl⟩;have HMv:=hide hmv;unfold ValPost at hval;rw[hmv]at hval;have HVal:=hide hval;clear hec hval hmv;go_wp2_with (refine wpList_load_mid rfl 38 _ rfl q 0 rfl ec.toList _ hq5.out.range rfl rfl (by rw[Array.length_toList,HEz.out];kernel_rfl) ?_);refine HVal.out.mono ?_;rintro e0 w6 ⟨X,rfl,hxv,hxi,m6⟩;have H6:=hide (H5.out.new m6);have HQ6:=hide (m6.blk hq5.out (by simp));have HO6:=hide (hro.out.new2 m6);have HXv:=hide hxv;have HXi2:=hide hxi;have HM6:=hide (hm5.out.trans m6 (by simp));clear m6 hxv hxi H5 hq5 hro hm5 HVal;have HXz:Hid (xc.size=5):=hide (by rw[←HXc.out];exact JN.cells_size _);have HXo:Hid (X.cells.all (·.oneCell')=true):=hide (by cases X;simp[JN.cells,Value.oneCell']);go_upto_region 20 with(refine wpList_store_open rfl 43 _ _ rfl rfl zcs X.cells rfl rfl (by rw[X.cells_size];kernel_rfl) (by rw[X.cells_size];rfl) HXo.out ?_;intro w7 m7 b7 s7;have HN7:=hide m7;have HX7:=hide b7;clear m7 b7 s7);have H7:=hide (H6.out.new HN7.out);have HQ7:=hide (HN7.out.blk HQ6.out (by simp));have HO7:=hide (HO6.out.new2 HN7.out);cases mv with
     | false=>have HNo:Hid (eof vv=none):=hide (by rw[←r7of_eq];unfold r7of;rw[hrv.out];simp only;rw[if_neg (by rw[HMv.out];simp)]);go_wp2_with (refine wpList_store_whole rfl 38 _ _ rfl rfl (w.heap.size+1) 38 (ecs none 0 0 ev0) (ecs none 0 0 ev0) H7.out.r rfl rfl (by kernel_rfl) rfl (by kernel_rfl) ?_;intro w9 m9 b9 s9;have HM9:=hide (H7.out.m.trans m9 (by intro x hx;right;simp at hx;omega));have HB9:=hide b9;clear m9 b9 s9);refine bodyPost_ret (results_cell_tmp_row rfl _ _ (w.heap.size+1) 38 (ecs none 0 0 ev0) _ rfl HB9.out Tryz.underlying38 rfl (by kernel_rfl)) rfl ?_;exact OfPost.no HNo.out HM9.out
     | true=>
      obtain⟨b,hb⟩:∃b,jsame (evalue E) vv=b:=⟨_,rfl⟩;have hsm:=rsamef_any w7 X (JN.mk k i t (some ⟨g,o,none⟩) c (p0 ::p1 ::p2 ::p3 ::p4 ::p5 ::tl) B d ks) (HXi2.out.new HN7.out) (HXi.out w7 H7.out.m) b (by rw[HXv.out,if_pos rfl,JN.v,HVv.out];exact hb);rw[HXc.out]at hsm;have HSm:=hide hsm;have HB:=hide hb;have XL:=hide HX7.out.range;have XR:=hide H7.out.x.range;obtain⟨xb,hxb⟩:∃g,w6.heap.size=g:=⟨_,rfl⟩;rw[hxb]at XL ⊢;clear hsm hb hxb;go_wp2_with (first | (refine wpList_load_want (by kernel_rfl) 43 _ rfl xb 0 rfl X.cells.toList _ XL.out rfl rfl (by rw[Array.length_toList,X.cells_size];kernel_rfl) ?_) | (refine wpList_load_want (by kernel_rfl) 43 _ rfl w.heap.size 0 rfl xc.toList _ XR.out rfl rfl (by rw[Array.length_toList,HXz.out];kernel_rfl) ?_));refine HSm.out.mono ?_;rintro e0 w8 ⟨rfl,m8⟩;have H8:=hide (H7.out.new m8);have HQ8:=hide (m8.blk HQ7.out (by simp));have HO8:=hide (HO7.out.new2 m8);clear m8;cases b with
      | false=>have HNo:Hid (eof vv=none):=hide (by rw[←r7of_eq];unfold r7of;rw[hrv.out];simp only;rw[if_neg (by rw[HB.out];simp)]);go_wp2_with (refine wpList_store_whole rfl 38 _ _ rfl rfl (w.heap.size+1) 38 (ecs none 0 0 ev0) (ecs none 0 0 ev0) H8.out.r rfl rfl (by kernel_rfl) rfl (by kernel_rfl) ?_;intro w9 m9 b9 s9;have HM9:=hide (H8.out.m.trans m9 (by intro x hx;right;simp at hx;omega));have HB9:=hide b9;clear m9 b9 s9);refine bodyPost_ret (results_cell_tmp_row rfl _ _ (w.heap.size+1) 38 (ecs none 0 0 ev0) _ rfl HB9.out Tryz.underlying38 rfl (by kernel_rfl)) rfl ?_;exact OfPost.no HNo.out HM9.out
      | true=>have HYes:Hid (eof vv=some E):=hide (by rw[←r7of_eq];unfold r7of;rw[hrv.out];simp only;rw[if_pos (by rw[HB.out,HMv.out];rfl)]);have XQ:=hide HQ8.out.range;go_wp2_with (first | (refine wpList_load_mid rfl 38 _ rfl q 0 rfl ec.toList _ XQ.out rfl rfl (by rw[Array.length_toList,HEz.out];kernel_rfl) ?_) | (refine wpList_store_whole rfl 38 _ _ rfl rfl (w.heap.size+1) 38 (ecs none 0 0 ev0) ec H8.out.r rfl rfl (by rw[HEz.out];kernel_rfl) (by rw[HEz.out];rfl) HOe.out ?_;intro w9 m9 b9 s9;have HM9:=hide m9;have HB9:=hide b9;clear m9 b9 s9));refine bodyPost_ret (results_cell_tmp_row rfl _ _ (w.heap.size+1) 38 ec _ rfl HB9.out Tryz.underlying38 rfl (by rw[HEz.out];kernel_rfl)) rfl ?_;rw[←HEc.out];exact⟨A',c',E,by rw[HYes.out];rfl,by rw[HYes.out],HO8.out.mod HM9.out (fun g' o' hA=>by have:=HO8.out.ne H8.out.r (by decide) g' o' hA;simpa using this),ev_short HMv.out,H8.out.m.trans HM9.out (by intro x hx;right;simp at hx;omega)⟩
 all_goals
  have HNo:Hid (eof vv=none):=hide (by
   rw[←r7of_eq]
   unfold r7of rev
   rw[if_pos (by rw[HL.out];first | exact .inl g0.out | exact .inr g1.out)])
  try have z0:decide ((n:Int) < 6)=true:=decide_eq_true (by have:=g0.out;omega)
  try have z0:decide ((n:Int) < 6)=false:=decide_eq_false (by have:=g0.out;omega)
  try have z1:decide ((7:Int) < n)=true:=decide_eq_true (by have:=g1.out;omega)
  go_wp2_with (refine wpList_store_whole rfl 38 _ _ rfl rfl (w.heap.size+1) 38 (ecs none 0 0 ev0) (ecs none 0 0 ev0) H1.out.r rfl rfl (by kernel_rfl) rfl (by kernel_rfl) ?_;intro w9 m9 b9 s9;have HM9:=hide (H1.out.m.trans m9 (by intro x hx;right;simp at hx;omega));have HB9:=hide b9;clear m9 b9 s9)
  refine bodyPost_ret (results_cell_tmp_row rfl _ _ (w.heap.size+1) 38 (ecs none 0 0 ev0) _ rfl HB9.out Tryz.underlying38 rfl (by kernel_rfl)) rfl ?_
  exact OfPost.no HNo.out HM9.out
theorem bulk_one {H:Type} (d:DataW H):1≤Rows.uptoBulk d:=by
 cases d with
 | lit l=>cases l <;> simp[Rows.uptoBulk]
 | _=>simp[Rows.uptoBulk]
theorem bulk_len {H:Type} :∀l:List (DataW H),l.length≤Rows.uptoBulkAll l
 | []=>by simp[Rows.uptoBulkAll]
 | x ::r=>by have:=bulk_one x;have:=bulk_len r;simp only[Rows.uptoBulkAll,List.length_cons];omega
section
open Go.ChangeShapes Go.WideShapes Go.Deep
variable {H:Type} {enc:TypeId×Value→H} {w:World} {base:Nat} {held:Bool}
theorem c1:Tryz.prog.cellsOf 33=1∧Tryz.prog.cellsOf 3=1∧Tryz.prog.cellsOf 9=1∧Tryz.prog.cellsOf 4=1∧Tryz.prog.cellsOf 34=1∧Tryz.prog.cellsOf 77=2∧Tryz.prog.cellsOf 36=8∧Tryz.prog.cellsOf 38=14:=⟨by kernel_rfl,by kernel_rfl,by kernel_rfl,by kernel_rfl,by kernel_rfl,by kernel_rfl,by kernel_rfl,by kernel_rfl⟩
theorem fld_u {n:Nat} {v:Value} {x:DataW H×List MemPlace} (h:DataW.trod enc Tryz.prog w base (fun _=>true) held n 33 [v]=some x):∃u:Nat,v=.int .u64 (u:Nat):=by obtain⟨z,e,_,wf⟩:=DataW.trod_int Tryz.underlying33 h;obtain⟨u,rfl⟩:=Int.eq_ofNat_of_zero_le (bounds_u64 wf).1;exact⟨u,by simpa using e⟩
theorem fld_i {n:Nat} {v:Value} {x:DataW H×List MemPlace} (h:DataW.trod enc Tryz.prog w base (fun _=>true) held n 3 [v]=some x):∃z:Int,v=.int .i64 z:=by obtain⟨z,e,_,wf⟩:=DataW.trod_int Tryz.underlying3 h;exact⟨z,by simpa using e⟩
theorem fld_s {n:Nat} {v:Value} {x:DataW H×List MemPlace} (h:DataW.trod enc Tryz.prog w base (fun _=>true) held n 9 [v]=some x):∃s:ByteArray,v=.string s∧s.size+1=Rows.uptoBulk x.1:=by obtain⟨s,e,rfl,_⟩:=DataW.trod_string Tryz.underlying9 h;exact⟨s,by simpa using e,by simp only[Rows.uptoBulk,bytes_len]⟩
theorem fld_b {n:Nat} {v:Value} {x:DataW H×List MemPlace} (h:DataW.trod enc Tryz.prog w base (fun _=>true) held n 4 [v]=some x):∃b:Bool,v=.bool b:=by obtain⟨b,e,_⟩:=DataW.trod_bool Tryz.underlying4 h;exact⟨b,by simpa using e⟩
theorem fld_r {n:Nat} {v:Value} {x:DataW H×List MemPlace} (h:DataW.trod enc Tryz.prog w base (fun _=>true) held n 34 [v]=some x):
  ∃(A:Option Addr) (l:List (Nat×Nat)) (c:Nat),v=.slice A l.length c∧l.length≤Rows.uptoBulk x.1∧(l.length≤4611686018427387904→Rngs w A l.length l):=by
 rcases open_slice Tryz.underlying34 h with⟨hcs,rfl⟩ | ⟨a,len,cap,m,n',D,Pl,hcs,_,hl,hm,hmm,rfl,hi⟩
 ·simp only[List.cons.injEq,and_true]at hcs;exact⟨none,[],0,hcs,Nat.zero_le _,fun _=>Rngs.nil w⟩
 ·simp only[List.cons.injEq,and_true]at hcs;simp only[if_true]at hmm;subst hmm;have hex:∀i,i < len→∃y:Nat×Nat,w.cell? (a.add (i * 2))=some (.int .u64 (y.1:Nat))∧w.cell? (a.add (i * 2+1))=some (.int .u64 (y.2:Nat)):=by
   intro i hil;obtain⟨cs',hc,ht⟩:=hi i (by omega);rw[c1.2.2.2.2.2.1]at hc;obtain⟨_,hcn,hat⟩:=World.cells?_some hc;obtain⟨xs,k,_,_,_,hxl,hf⟩:=DataW.trod_struct Tryz.underlying77 ht;have hxl:xs.length=2:=hxl
   match cs',hcn,xs,hxl with
   | [u,v],_,[y0,y1],_=>have t0:DataW.trod enc Tryz.prog w base (fun _=>true) held k 33 (([u,v].drop 0).take (Tryz.prog.cellsOf 33))=some y0:=hf 0 _ rfl;have t1:DataW.trod enc Tryz.prog w base (fun _=>true) held k 33 (([u,v].drop 1).take (Tryz.prog.cellsOf 33))=some y1:=hf 1 _ rfl;rw[c1.1]at t0 t1;obtain⟨u0,rfl⟩:=fld_u (v:=u) t0;obtain⟨u1,rfl⟩:=fld_u (v:=v) t1;have h0:=hat 0 (by decide);have h1:=hat 1 (by decide);rw[Go.Deep.add_add]at h0 h1;exact⟨(u0,u1),h0,h1⟩
  obtain⟨L,hL,hP⟩:=exists_row hex;refine⟨some a,L,_,by rw[hcs,hL],?_,fun hbig=>⟨rfl,hbig,?_⟩⟩
  ·simp only[Rows.uptoBulk];have:=bulk_len ((List.range len).map D);rw[List.length_map,List.length_range]at this;omega
  ·rcases Nat.eq_zero_or_pos len with h0 | h0
   ·exact .inl (by omega)
   ·right;obtain⟨b,off,spot⟩:=a;obtain⟨y,hy⟩:∃y,L[0]? =some y:=⟨_,List.getElem?_eq_getElem (by omega)⟩;have hc0:=(hP 0 y hy).1;have hspot:spot=none:=(by simpa [Addr.add] using World.cell?_spot hc0);subst hspot;refine⟨b,off,rfl,World.block_lt_of_cell? w _ hc0,fun i z hz=> ?_⟩;have h1:=(hP i z hz).1;have h2:=(hP i z hz).2;rw[Addr.add_lit]at h1 h2;exact⟨h1,h2⟩
theorem fld_f {n:Nat} {a6 a7 a8 a9 a10 a11 a12 a13:Value} {x:DataW H×List MemPlace} (h:DataW.trod enc Tryz.prog w base (fun _=>true) held n 36 [a6,a7,a8,a9,a10,a11,a12,a13]=some x):
  ∃(f:Fr) (A:Option Addr) (c:Nat),[a6,a7,a8,a9,a10,a11,a12,a13]= [.int .u64 (f.kind:Nat),.int .u64 (f.a:Nat),.int .u64 (f.b:Nat),.int .u64 (f.c:Nat),.bool f.fin,.string f.data,.string f.more,.slice A f.list.length c]∧
   f.data.size+f.more.size+f.list.length≤Rows.uptoBulk x.1∧(f.list.length≤4611686018427387904→Rngs w A f.list.length f.list):=by
 obtain⟨xs,k,_,rfl,_,hxl,hf⟩:=DataW.trod_struct Tryz.underlying36 h;have hxl:xs.length=8:=hxl
 match xs,hxl with
 | [y0,y1,y2,y3,y4,y5,y6,y7],_=>have t0:DataW.trod enc Tryz.prog w base (fun _=>true) held k 33 (([a6,a7,a8,a9,a10,a11,a12,a13].drop 0).take (Tryz.prog.cellsOf 33))=some y0:=hf 0 _ rfl;have t1:DataW.trod enc Tryz.prog w base (fun _=>true) held k 33 (([a6,a7,a8,a9,a10,a11,a12,a13].drop 1).take (Tryz.prog.cellsOf 33))=some y1:=hf 1 _ rfl;have t2:DataW.trod enc Tryz.prog w base (fun _=>true) held k 33 (([a6,a7,a8,a9,a10,a11,a12,a13].drop 2).take (Tryz.prog.cellsOf 33))=some y2:=hf 2 _ rfl;have t3:DataW.trod enc Tryz.prog w base (fun _=>true) held k 33 (([a6,a7,a8,a9,a10,a11,a12,a13].drop 3).take (Tryz.prog.cellsOf 33))=some y3:=hf 3 _ rfl;have t4:DataW.trod enc Tryz.prog w base (fun _=>true) held k 4 (([a6,a7,a8,a9,a10,a11,a12,a13].drop 4).take (Tryz.prog.cellsOf 4))=some y4:=hf 4 _ rfl;have t5:DataW.trod enc Tryz.prog w base (fun _=>true) held k 9 (([a6,a7,a8,a9,a10,a11,a12,a13].drop 5).take (Tryz.prog.cellsOf 9))=some y5:=hf 5 _ rfl;have t6:DataW.trod enc Tryz.prog w base (fun _=>true) held k 9 (([a6,a7,a8,a9,a10,a11,a12,a13].drop 6).take (Tryz.prog.cellsOf 9))=some y6:=hf 6 _ rfl;have t7:DataW.trod enc Tryz.prog w base (fun _=>true) held k 34 (([a6,a7,a8,a9,a10,a11,a12,a13].drop 7).take (Tryz.prog.cellsOf 34))=some y7:=hf 7 _ rfl;rw[c1.1]at t0 t1 t2 t3;rw[c1.2.2.2.1]at t4;rw[c1.2.2.1]at t5 t6;rw[c1.2.2.2.2.1]at t7;obtain⟨u0,rfl⟩:=fld_u (v:=a6) t0;obtain⟨u1,rfl⟩:=fld_u (v:=a7) t1;obtain⟨u2,rfl⟩:=fld_u (v:=a8) t2;obtain⟨u3,rfl⟩:=fld_u (v:=a9) t3;obtain⟨fb,rfl⟩:=fld_b (v:=a10) t4;obtain⟨s5,rfl,e5⟩:=fld_s (v:=a11) t5;obtain⟨s6,rfl,e6⟩:=fld_s (v:=a12) t6;obtain⟨A,l,c,rfl,e7,hr⟩:=fld_r (v:=a13) t7;refine⟨⟨u0,u1,u2,u3,fb,s5,s6,l⟩,A,c,rfl,?_,hr⟩;simp only[List.map_cons,List.map_nil,Rows.uptoBulk,Rows.uptoBulkAll];omega
theorem trod_ev (n:Nat) (cs:List Value) (x:DataW H×List MemPlace) (hlen:cs.length=14) (h:DataW.trod enc Tryz.prog w base (fun _=>true) held n 38 cs=some x):
  ∃y:EV,cs=y.cells∧(y.e.f.list.length≤4611686018427387904→Rngs w y.A y.e.f.list.length y.e.f.list)∧esz y.e≤20+Rows.uptoBulk x.1:=by
 obtain⟨xs,k,_,rfl,_,hxl,hf⟩:=DataW.trod_struct Tryz.underlying38 h;have hxl:xs.length=7:=hxl
 match cs,hlen,xs,hxl with
 | [a0,a1,a2,a3,a4,a5,a6,a7,a8,a9,a10,a11,a12,a13],_,[y0,y1,y2,y3,y4,y5,y6],_=>have t0:DataW.trod enc Tryz.prog w base (fun _=>true) held k 3 (([a0,a1,a2,a3,a4,a5,a6,a7,a8,a9,a10,a11,a12,a13].drop 0).take (Tryz.prog.cellsOf 3))=some y0:=hf 0 _ rfl;have t1:DataW.trod enc Tryz.prog w base (fun _=>true) held k 3 (([a0,a1,a2,a3,a4,a5,a6,a7,a8,a9,a10,a11,a12,a13].drop 1).take (Tryz.prog.cellsOf 3))=some y1:=hf 1 _ rfl;have t2:DataW.trod enc Tryz.prog w base (fun _=>true) held k 33 (([a0,a1,a2,a3,a4,a5,a6,a7,a8,a9,a10,a11,a12,a13].drop 2).take (Tryz.prog.cellsOf 33))=some y2:=hf 2 _ rfl;have t3:DataW.trod enc Tryz.prog w base (fun _=>true) held k 33 (([a0,a1,a2,a3,a4,a5,a6,a7,a8,a9,a10,a11,a12,a13].drop 3).take (Tryz.prog.cellsOf 33))=some y3:=hf 3 _ rfl;have t4:DataW.trod enc Tryz.prog w base (fun _=>true) held k 33 (([a0,a1,a2,a3,a4,a5,a6,a7,a8,a9,a10,a11,a12,a13].drop 4).take (Tryz.prog.cellsOf 33))=some y4:=hf 4 _ rfl;have t5:DataW.trod enc Tryz.prog w base (fun _=>true) held k 9 (([a0,a1,a2,a3,a4,a5,a6,a7,a8,a9,a10,a11,a12,a13].drop 5).take (Tryz.prog.cellsOf 9))=some y5:=hf 5 _ rfl;have t6:DataW.trod enc Tryz.prog w base (fun _=>true) held k 36 (([a0,a1,a2,a3,a4,a5,a6,a7,a8,a9,a10,a11,a12,a13].drop 6).take (Tryz.prog.cellsOf 36))=some y6:=hf 6 _ rfl;rw[c1.2.1]at t0 t1;rw[c1.1]at t2 t3 t4;rw[c1.2.2.1]at t5;rw[c1.2.2.2.2.2.2.1]at t6;obtain⟨z0,rfl⟩:=fld_i (v:=a0) t0;obtain⟨z1,rfl⟩:=fld_i (v:=a1) t1;obtain⟨u2,rfl⟩:=fld_u (v:=a2) t2;obtain⟨u3,rfl⟩:=fld_u (v:=a3) t3;obtain⟨u4,rfl⟩:=fld_u (v:=a4) t4;obtain⟨s5,rfl,e5⟩:=fld_s (v:=a5) t5;obtain⟨f,A,c,ef,e6,hr⟩:=fld_f (a6:=a6) (a7:=a7) (a8:=a8) (a9:=a9) (a10:=a10) (a11:=a11) (a12:=a12) (a13:=a13) t6;simp only[List.cons.injEq,and_true]at ef;obtain⟨rfl,rfl,rfl,rfl,rfl,rfl,rfl,rfl⟩:=ef;refine⟨⟨⟨z0,z1,u2,u3,u4,s5,f⟩,A,c⟩,rfl,hr,?_⟩;unfold esz;simp only[List.map_cons,List.map_nil,Rows.uptoBulk,Rows.uptoBulkAll];omega
end
theorem jex_list {α:Type} {n:Nat} {P:Nat→α→Prop} (h:∀i,i < n→∃x,P i x):∃l:List α,l.length=n∧∀i x,l[i]? =some x→P i x:=by
 induction n with
 | zero=>exact⟨[],rfl,fun i x hx=>by simp at hx⟩
 | succ n ih=>
  obtain⟨l,hl,hp⟩:=ih (fun i hi=>h i (by omega));obtain⟨x,hx⟩:=h n (by omega);refine⟨l++ [x],by simp[hl],fun i y hy=> ?_⟩;by_cases hi:i < n
  ·rw[List.getElem?_append_left (by omega)]at hy;exact hp i y hy
  ·have:i=n:=by have:=(List.getElem?_eq_some_iff.1 hy).1;simp at this;omega
   subst this;rw[List.getElem?_append_right (by omega),hl]at hy;simp at hy;subst hy;exact hx
section
open Go.ChangeShapes Go.WideShapes
variable {H:Type} {enc:TypeId×Value→H} {w:World} {held:Bool}
theorem weightsAll_mem {P:Program} {e:TypeId} {d:DataW H} {n:Nat} (hn:n∈d.weights P e):∀ {l:List (DataW H)},d∈l→n∈DataW.weightsAll P e l
 | x ::l,h=>by
  rw[DataW.weightsAll,List.mem_append]
  rcases List.mem_cons.1 h with rfl | h
  ·exact .inl hn
  ·exact .inr (weightsAll_mem hn h)
def reachOk (l:List Nat):Prop:=∀n∈l,n≤reachBytes
theorem reachOk.slice {P:Program} {t e:TypeId} {a b:List (DataW H)} (hu:P.underlying t=some (.slice e)) (h:reachOk ((DataW.slice a b).weights P t)):
  (a.length+b.length) * P.bytesOf e≤reachBytes∧∀d∈a,reachOk (d.weights P e):=by
 unfold DataW.weights at h;rw[hu]at h;refine⟨h _ (by simp),fun d hd n hn=>h n ?_⟩;simp only[List.mem_cons,List.mem_append];exact .inr (.inl (weightsAll_mem hn hd))
theorem open_keys {fuel:Nat} {v:Value} {x:DataW H×List MemPlace} (h:DataW.trod enc Tryz.prog w 0 (fun _=>true) held fuel 41 [v]=some x) (hr:reachOk (x.1.weights Tryz.prog 41)):
  ∃(A:Option Addr) (l:List ByteArray) (c:Nat),v=.slice A l.length c∧KeysAt w A l∧l.length≤jmax∧l.length≤c:=by
 rcases DataW.trod_slice Tryz.underlying41 h with⟨hcs,_⟩ | ⟨a,len,cap,elems,rest,n,_,hcs,rfl,hb,hl,hm,hlen,hel,_,_⟩
 ·simp only[List.cons.injEq,and_true]at hcs;subst hcs;exact⟨none,[],0,rfl,.inl rfl,Nat.zero_le _,Nat.le_refl _⟩
 ·simp only[List.cons.injEq,and_true]at hcs;subst hcs;obtain⟨hr1,_⟩:=reachOk.slice Tryz.underlying41 hr;rw[show Tryz.prog.bytesOf 9=16 by kernel_rfl,List.length_map,List.length_map,hlen]at hr1;have hr2:(len+rest.length) * 16 < 2 ^ 47:=Nat.lt_of_le_of_lt hr1 reachBytes_lt;have hex:∀i,i < len→∃y:ByteArray,w.cell? (a.add i)=some (.string y):=(by intro i hi;have h1:=hel i hi;rw[List.getElem?_eq_getElem (by omega),Option.bind_eq_some_iff]at h1;obtain⟨cs',hc,ht⟩:=h1;rw[show Tryz.prog.cellsOf 9=1 by kernel_rfl]at hc;obtain⟨_,hcl,hat⟩:=World.cells?_some hc;obtain⟨s,rfl,_,_⟩:=DataW.trod_string Tryz.underlying9 ht;have h0:=hat 0 (by omega);refine⟨s,?_⟩;rw[Nat.mul_one]at h0;simpa [Addr.add] using h0);obtain⟨L,hL,hP⟩:=jex_list hex;refine⟨some a,L,_,by rw[hL],?_,by unfold jmax;omega,by omega⟩;rcases Nat.eq_zero_or_pos len with h0 | h0
  ·exact .inl (List.eq_nil_of_length_eq_zero (by omega))
  ·right;obtain⟨b,off,spot⟩:=a;obtain⟨y,hy⟩:∃y,L[0]? =some y:=⟨_,List.getElem?_eq_getElem (by omega)⟩;have hc0:=hP 0 y hy;have hspot:spot=none:=(by simpa [Addr.add] using World.cell?_spot hc0);subst hspot;refine⟨b,off,rfl,World.block_lt_of_cell? w _ hc0,fun i z hz=> ?_⟩;have h1:=hP i z hz;rw[Addr.add_lit]at h1;exact h1
def ValOk (H:Type) (enc:TypeId×Value→H) (w:World) (held:Bool) (fuel:Nat):Prop:=∀(cs:List Value) (x:DataW H×List MemPlace),DataW.trod enc Tryz.prog w 0 (fun _=>true) held fuel 43 cs=some x→
 reachOk (x.1.weights Tryz.prog 43)→∃u:JN,cs=u.cells.toList∧JIn w u∧jrng u.v=true
theorem jjrngs_all:∀ {l:List JN},(∀x∈l,jrng x.v=true)→jrngs (JN.vs l)=true
 | [],_=>by rw[JN.vs,jrngs]
 | x ::l,h=>by
  rw[JN.vs,jrngs,h x (by simp),jjrngs_all fun y hy=>h y (by simp[hy])]
  rfl
theorem open_vals {fuel:Nat} (ih:∀n,n < fuel→ValOk H enc w held n) {v:Value} {x:DataW H×List MemPlace} (h:DataW.trod enc Tryz.prog w 0 (fun _=>true) held fuel 40 [v]=some x) (hr:reachOk (x.1.weights Tryz.prog 40)):
  ∃(A:Option Addr) (l:List JN) (c:Nat),v=.slice A l.length c∧RowAt w A l∧JIns w l∧l.length≤jmax∧jrngs (JN.vs l)=true:=by
 rcases DataW.trod_slice Tryz.underlying40 h with⟨hcs,_⟩ | ⟨a,len,cap,elems,rest,n,hn,hcs,rfl,hb,hl,hm,hlen,hel,_,_⟩
 ·simp only[List.cons.injEq,and_true]at hcs;subst hcs;exact⟨none,[],0,rfl,.inl rfl,trivial,Nat.zero_le _,by rw[JN.vs,jrngs]⟩
 ·simp only[List.cons.injEq,and_true]at hcs;subst hcs;obtain⟨hr1,hr3⟩:=reachOk.slice Tryz.underlying40 hr;rw[show Tryz.prog.bytesOf 43=80 by kernel_rfl,List.length_map,List.length_map,hlen]at hr1;have hr2:(len+rest.length) * 80 < 2 ^ 47:=Nat.lt_of_le_of_lt hr1 reachBytes_lt;have hex:∀i,i < len→∃y:JN,(∀j u,y.cells[j]? =some u→w.cell? (a.add (i * 5+j))=some u)∧JIn w y∧jrng y.v=true:=by
   intro i hi;have h1:=hel i hi;rw[List.getElem?_eq_getElem (by omega),Option.bind_eq_some_iff]at h1;obtain⟨cs',hc,ht⟩:=h1;rw[show Tryz.prog.cellsOf 43=5 by kernel_rfl]at hc;obtain⟨_,hcl,hat⟩:=World.cells?_some hc;obtain⟨u,rfl,hu,hur⟩:=ih n (by omega) cs' _ ht (hr3 _ (by simp only[List.mem_map];exact⟨elems[i],List.getElem_mem _,rfl⟩));refine⟨u,fun j z hj=> ?_,hu,hur⟩;have hj5:j < 5:=by have h5:=(Array.getElem?_eq_some_iff.1 hj).1;rw[u.cells_size]at h5;exact h5
   have h2:=hat j hj5;rw[←Go.Deep.add_add,h2];rw[←Array.getElem?_toList]at hj;exact hj
  obtain⟨L,hL,hP⟩:=jex_list hex;refine⟨some a,L,_,by rw[hL],?_,JIns.of fun y hy=> ?_,by unfold jmax;omega,jjrngs_all fun y hy=> ?_⟩
  ·rcases Nat.eq_zero_or_pos len with h0 | h0
   ·exact .inl (List.eq_nil_of_length_eq_zero (by omega))
   ·right;obtain⟨b,off,spot⟩:=a;obtain⟨y,hy⟩:∃y,L[0]? =some y:=⟨_,List.getElem?_eq_getElem (by omega)⟩;obtain⟨u0,hu0⟩:∃u0,y.cells[0]? =some u0:=⟨_,Array.getElem?_eq_getElem (by rw[y.cells_size];omega)⟩;have hc0:=(hP 0 y hy).1 0 _ hu0;have hspot:spot=none:=(by simpa [Addr.add] using World.cell?_spot hc0);subst hspot;refine⟨b,off,rfl,World.block_lt_of_cell? w _ hc0,fun i z hz j u hu=> ?_⟩;have h1:=(hP i z hz).1 j u hu;rw[Addr.add_lit]at h1;rw[Nat.add_assoc];exact h1
  ·obtain⟨i,hi⟩:=List.getElem?_of_mem hy;exact(hP i y hi).2.1
  ·obtain⟨i,hi⟩:=List.getElem?_of_mem hy;exact(hP i y hi).2.2
theorem open_val (fuel:Nat):ValOk H enc w held fuel:=by
 induction fuel using Nat.strongRecOn with
 | _ fuel ih=>
  intro cs x h hr;obtain⟨ys,n,hn,rfl,hcl,hyl,hf⟩:=DataW.trod_struct Tryz.underlying43 h;have hcl5:cs.length=5:=hcl.trans (by kernel_rfl);have hfs:∀(i:Nat) (f:Field),_[i]? =some f→DataW.trod enc Tryz.prog w 0 (fun _=>true) held n f.type ((cs.drop i).take 1)=ys[i]? :=fun i f hi=>by obtain⟨ho,hk⟩:=Go.Deep.hone_of (by kernel_rfl) i f hi;have h1:=hf i f hi;rwa [ho,hk]at h1
  match cs,hcl5 with
  | [k0,k1,k2,k3,k4],_=>
   have hyl5:ys.length=5:=hyl
   match ys,hyl5 with
   | [y0,y1,y2,y3,y4],_=>
    have f0:DataW.trod enc Tryz.prog w 0 (fun _=>true) held n 3 [k0]=some y0:=hfs 0 _ rfl;have f1:DataW.trod enc Tryz.prog w 0 (fun _=>true) held n 2 [k1]=some y1:=hfs 1 _ rfl;have f2:DataW.trod enc Tryz.prog w 0 (fun _=>true) held n 9 [k2]=some y2:=hfs 2 _ rfl;have f3:DataW.trod enc Tryz.prog w 0 (fun _=>true) held n 40 [k3]=some y3:=hfs 3 _ rfl;have f4:DataW.trod enc Tryz.prog w 0 (fun _=>true) held n 41 [k4]=some y4:=hfs 4 _ rfl;obtain⟨x0,e0,_,w0⟩:=DataW.trod_int Tryz.underlying3 f0;obtain⟨x1,e1,_,w1⟩:=DataW.trod_int Tryz.underlying2 f1;obtain⟨x2,e2,_,_⟩:=DataW.trod_string Tryz.underlying9 f2;have hr':∀(j:Nat) (t:TypeId) (y:DataW H×List MemPlace),[3,2,9,40,41][j]? =some t→ [y0,y1,y2,y3,y4][j]? =some y→reachOk (y.1.weights Tryz.prog t):=(by intro j t y ht hy m hm;refine hr m ?_;unfold DataW.weights;rw[Tryz.underlying43];refine DataW.weights_mem_each (j:=j) (t:=t) (d:=y.1) ht ?_ m hm;rw[List.getElem?_map,hy];rfl);obtain⟨A,l,c,rfl,hA1,hA2,hA3,hA4⟩:=open_vals (fun m hm=>ih m (by omega)) f3 (hr' 3 _ y3 rfl rfl);obtain⟨B,ks,d,rfl,hB1,hB2,hB3⟩:=open_keys f4 (hr' 4 _ y4 rfl rfl);simp only[List.cons.injEq,and_true]at e0 e1 e2;subst e0 e1 e2;refine⟨.mk x0 x1 x2 A c l B d ks,rfl,?_,?_⟩
    ·rw[JIn];exact⟨⟨hA3,hB2,hB3⟩,hB1,hA1,hA2⟩
    ·rw[JN.v,jrng,hA4];have:=bounds_i64 w1;unfold i64B;simp;omega
end
section
open Go.ChangeShapes Go.WideShapes
variable {H:Type} {enc:TypeId×Value→H} {W:World} {held:Bool}
theorem reach_of {ts:List TypeId} {ds:List (DataW H)} {j:Nat} {t:TypeId} {d:DataW H} (h:(DataW.weightsEach Tryz.prog ts ds).all (· ≤reachBytes)=true) (ht:ts[j]? =some t) (hd:ds[j]? =some d):reachOk (d.weights Tryz.prog t):=by intro n hn;exact of_decide_eq_true (List.all_eq_true.1 h n (DataW.weights_mem_each ht hd n hn))
theorem open_value {v:Value} {d:DataW H} {p:List MemPlace} {r:Reach} {b0:Nat} (hv:Value.okWide Tryz.prog W r b0 43 v) (h:DataW.Trod enc Tryz.prog W 0 (fun _=>true) held 43 v d p) (hr:reachOk (d.weights Tryz.prog 43)):
  ∃x:JN,v=.agg x.cells∧JIn W x∧jrng x.v=true:=by
 obtain⟨cs,rfl,hsz⟩:=okWide_struct Tryz.underlying43 hv;obtain⟨fuel,hf⟩:=h;obtain⟨u,hu,h1,h2⟩:=open_val fuel _ _ hf hr;refine⟨u,?_,h1,h2⟩;have:cs.toList=u.cells.toList:=hu;rw[Array.toList_inj.1 this]
end
section
open Go.ChangeShapes Go.WideShapes Go.Deep
variable {H:Type} {enc:TypeId×Value→H} {w:World} {held:Bool}
theorem reachOk.fields {t:TypeId} {fs:Array Field} {l:List (DataW H)} (hu:Tryz.prog.underlying t=some (.struct fs)) (h:reachOk ((DataW.agg l).weights Tryz.prog t)) (j:Nat) (u:TypeId) (d:DataW H) (hj:(fs.toList.map (·.type))[j]? =some u) (hd:l[j]? =some d):reachOk (d.weights Tryz.prog u):=by intro n hn;refine h n ?_;unfold DataW.weights;rw[hu];exact DataW.weights_mem_each hj hd n hn
theorem str_reach {n:Nat} {s:ByteArray} {x:DataW H×List MemPlace} (h:DataW.trod enc Tryz.prog w 0 (fun _=>true) held n 9 [.string s]=some x) (hr:reachOk (x.1.weights Tryz.prog 9)):s.size≤reachBytes:=by obtain⟨s',e,rfl,_⟩:=DataW.trod_string Tryz.underlying9 h;obtain rfl:s=s':=(by simpa using e);refine hr _ ?_;unfold DataW.weights;simp
theorem rng_reach {n:Nat} {A:Option Addr} {m c:Nat} {x:DataW H×List MemPlace} (h:DataW.trod enc Tryz.prog w 0 (fun _=>true) held n 34 [.slice A m c]=some x) (hr:reachOk (x.1.weights Tryz.prog 34)):m≤reachBytes:=by
 rcases DataW.trod_slice Tryz.underlying34 h with⟨hcs,_⟩ | ⟨a,len,cap,elems,rest,n,_,hcs,rfl,hb,hl,hm,hlen,hel,_,_⟩
 ·simp only[List.cons.injEq,and_true,Value.slice.injEq]at hcs;rw[hcs.2.1];exact Nat.zero_le _
 ·simp only[List.cons.injEq,and_true,Value.slice.injEq]at hcs;obtain⟨-,rfl, -⟩:=hcs;obtain⟨hr1,_⟩:=reachOk.slice Tryz.underlying34 hr;rw[show Tryz.prog.bytesOf 77=16 by kernel_rfl,List.length_map,List.length_map,hlen]at hr1;omega
theorem ev_reach (n:Nat) (y:EV) (x:DataW H×List MemPlace) (h:DataW.trod enc Tryz.prog w 0 (fun _=>true) held n 38 y.cells=some x) (hr:reachOk (x.1.weights Tryz.prog 38)):esz y.e≤4611686018427387904∧y.e.f.list.length≤4611686018427387904:=by
 obtain⟨⟨z0,z1,u2,u3,u4,s5,⟨f0,f1,f2,f3,f4,f5,f6,f7⟩⟩,A,c⟩:=y;obtain⟨xs,k,_,rfl,_,hxl,hf⟩:=DataW.trod_struct Tryz.underlying38 h;have hxl:xs.length=7:=hxl
 match xs,hxl with
 | [y0,y1,y2,y3,y4,y5,y6],_=>
  have t5:=hf 5 _ rfl;have t6:=hf 6 _ rfl;have r5:=str_reach (s:=s5) t5 (reachOk.fields Tryz.underlying38 hr 5 _ _ rfl rfl);have hr6:=reachOk.fields Tryz.underlying38 hr 6 36 y6.1 rfl rfl;have t6':DataW.trod enc Tryz.prog w 0 (fun _=>true) held k 36 [.int .u64 (f0:Nat),.int .u64 (f1:Nat),.int .u64 (f2:Nat),.int .u64 (f3:Nat),.bool f4,.string f5,.string f6,.slice A f7.length c]=some y6:=t6;obtain⟨ys,k',_,rfl,_,hyl,hg⟩:=DataW.trod_struct Tryz.underlying36 t6';have hyl:ys.length=8:=hyl
  match ys,hyl with
  | [w0,w1,w2,w3,w4,w5,w6,w7],_=>have r6:=str_reach (s:=f5) (hg 5 _ rfl) (reachOk.fields Tryz.underlying36 hr6 5 _ _ rfl rfl);have r7:=str_reach (s:=f6) (hg 6 _ rfl) (reachOk.fields Tryz.underlying36 hr6 6 _ _ rfl rfl);have r8:=rng_reach (A:=A) (m:=f7.length) (c:=c) (hg 7 _ rfl) (reachOk.fields Tryz.underlying36 hr6 7 _ _ rfl rfl);have:=reachBytes_lt;unfold esz;refine⟨?_,?_⟩ <;> dsimp only <;> omega
theorem open_event {v:Value} {d:DataW H} {p:List MemPlace} {r:Reach} {b0:Nat} (hv:Value.okWide Tryz.prog w r b0 38 v) (h:DataW.Trod enc Tryz.prog w 0 (fun _=>true) held 38 v d p) (hr:reachOk (d.weights Tryz.prog 38)):
  ∃(A:Option Addr) (c:Nat) (e:Ev),v=evval A e.f.list.length c e∧Rngs w A e.f.list.length e.f.list∧esz e≤4611686018427387904:=by
 obtain⟨cs,rfl,hsz⟩:=okWide_struct Tryz.underlying38 hv;obtain⟨fuel,hf⟩:=h;have hf':DataW.trod enc Tryz.prog w 0 (fun _=>true) held fuel 38 cs.toList=some (d,p):=hf;obtain⟨y,hy,hrg,_⟩:=trod_ev fuel cs.toList (d,p) (by rw[Array.length_toList];exact hsz.trans (by kernel_rfl)) hf';rw[hy]at hf';obtain⟨h1,h2⟩:=ev_reach fuel y (d,p) hf' hr;refine⟨y.A,y.c,y.e,?_,hrg h2,h1⟩;unfold evval;unfold EV.cells at hy;rw[←Array.toList_inj.1 hy]
end
mutual
def vwt:Nat→JV→Nat
 | d,.mk k i t l ks=>if d=0 then 1024 else vwl (d - 1) l (1+ks.length)
def vwl:Nat→List JV→Nat→Nat
 | _,[],n=>n
 | d,x ::l,n=>if n < 1024 then vwl d l (n+vwt d x)else n
end
theorem vwl_ge:∀(d:Nat) (l:List JV) (n:Nat),n≤vwl d l n
 | d,[],n=>by rw[vwl];exact Nat.le_refl _
 | d,x ::l,n=>by
  rw[vwl];split
  ·exact Nat.le_trans (Nat.le_add_right _ _) (vwl_ge d l _)
  ·exact Nat.le_refl _
theorem vwt_pos (d:Nat) (v:JV):1≤vwt d v:=by
 obtain⟨k,i,t,l,ks⟩:=v;rw[vwt];split
 ·omega
 ·have:=vwl_ge (d - 1) l (1+ks.length);omega
theorem vwl_lt:∀(d:Nat) (l:List JV) (n:Nat),vwl d l n < 1024→n+l.length≤vwl d l n∧∀x∈l,vwt d x < 1024
 | d,[],n,_=>by rw[vwl];simp
 | d,x ::l,n,h=>by
  rw[vwl]at h ⊢
  split at h
  ·rename_i hn
   rw[if_pos hn]
   obtain⟨h1,h2⟩:=vwl_lt d l _ h
   have:=vwt_pos d x
   refine⟨by rw[List.length_cons];omega,fun y hy=> ?_⟩
   rcases List.mem_cons.1 hy with rfl | hy
   ·omega
   ·exact h2 y hy
  ·omega
theorem vwt_small {d:Nat} {v:JV} (h:vwt d v < 1024):v.l.length < 1024∧∀x∈v.l,vwt (d - 1) x < 1024:=by
 obtain⟨k,i,t,l,ks⟩:=v;rw[vwt]at h
 split at h
 ·omega
 ·obtain⟨h1,h2⟩:=vwl_lt _ _ _ h;exact⟨by show l.length < 1024;omega,h2⟩
theorem vwt_at {d:Nat} {v:JV} (h:vwt d v < 1024∨v=jv0) (i:Nat):vwt (d - 1) (jat v i) < 1024∨jat v i=jv0:=by
 rcases h with h | rfl
 ·unfold jat;cases he:v.l[i]? with
  | none=>rw[List.getD_eq_getElem?_getD,he];exact .inr rfl
  | some x=>rw[List.getD_eq_getElem?_getD,he];exact .inl ((vwt_small h).2 x (List.mem_of_getElem? he))
 ·exact .inr (by unfold jat jv0 JV.l;simp)
theorem vwt_len {d:Nat} {v:JV} (h:vwt d v < 1024∨v=jv0):v.l.length≤1024:=by
 rcases h with h | rfl
 ·have:=(vwt_small h).1;omega
 ·simp[jv0,JV.l]
theorem vwl_stop:∀(d:Nat) (l:List JV) (r:Nat),(l= []∨¬r < 1024)→vwl d l r=r
 | d,[],r,_=>by rw[vwl]
 | d,k ::ks,r,h=>by rw[vwl,if_neg (by rcases h with h | h;cases h;exact h)]
theorem vwl_go {d:Nat} {l:List JV} {i r:Nat} {u:JV} (h:l[i]? =some u) (hr:r < 1024):vwl d (l.drop i) r=vwl d (l.drop (i+1)) (r+vwt d u):=by obtain⟨hi,rfl⟩:=List.getElem?_eq_some_iff.1 h;rw[List.drop_eq_getElem_cons hi,vwl,if_pos hr]
def VwOk (d:Nat):Prop:=∀(w:World) (x:JN),JIn w x→
 Calls Tryz.prog 26 #[.agg x.cells,.int .i64 (10 - (d:Int))] w fun e w'=>∃r:Nat,e=.returned (.int .i64 (r:Int))∧r=vwt d x.v∧r≤140737488355328+4096 * (d+1)∧Mod [] w w'
theorem vweight_zero:VwOk 0:=by intro w x hx;obtain⟨xk,xi,xt,xA,xc,xl,xB,xd,xs⟩:=x;have hr:=hide (show vwt 0 (JN.mk xk xi xt xA xc xl xB xd xs).v=1024 by rw[JN.v,vwt];simp);rw[show(10:Int) - ((0:Nat):Int)=10 from rfl];simp only[JN.cells];clear hx;go_enter Tryz.func26,Tryz.ntmps26;go_wp2_with fail;go_ret;exact⟨1024,rfl,hr.out.symm,by omega,(Mod.refl [] w).alloc _⟩
theorem vweight_step (d:Nat) (hd:d+1≤10) (hW:VwOk d):VwOk (d+1):=by
 intro w x hx;obtain⟨xk,xi,xt,xA,xc,xl,xB,xd,xs⟩:=x;have HR:=hide hx.row;have HI:=hide hx.ins;obtain⟨hx1,hx2⟩:=hx.len;rw[show(10:Int) - ((d+1:Nat):Int)=9 - d by omega];obtain⟨n,hn⟩:∃n,xl.length=n:=⟨_,rfl⟩;obtain⟨m,hm⟩:∃m,xs.length=m:=⟨_,rfl⟩;obtain⟨q,hq⟩:∃q:Int,q=9 - (d:Int):=⟨_,rfl⟩;have q1:¬9 < q:=(by omega);have q2:0≤q:=(by omega);have HQ:Hid (IntKind.i64.wrap (q+1)=10 - (d:Int)):=hide (by rw[IntWalk.i64_in _ (by omega)];omega);rw[←hq];have HN:=hide hn;have HW:=hide hW;obtain⟨r0,hr0⟩:∃r0,r0=1+m:=⟨_,rfl⟩;have HT:Hid (vwl d (JN.vs xl) r0=vwt (d+1) (JN.mk xk xi xt xA xc xl xB xd xs).v):=hide (by rw[JN.v,vwt,if_neg (by omega),hr0,←hm];rfl);simp only[JN.cells];rw[hn,hm];rw[hn]at hx1;rw[hm]at hx2;have hs1:IntKind.i64.wrap (1+(m:Int))=(r0:Int):=(by rw[IntWalk.i64_in _ (by omega)];omega);have hr0b:r0≤140737488355328+2049:=(by omega);have HM1:=hide ((Mod.refl [] w).alloc (.cells #[.int .i64 xk,.int .i64 xi,.string xt,.slice xA n xc,.slice xB m xd] 43));have HB1:=hide (Blk.new w 43 #[.int .i64 xk,.int .i64 xi,.string xt,.slice xA n xc,.slice xB m xd]);clear hn hm hW hq hr0 hx;go_enter Tryz.func26,Tryz.ntmps26;go_wp2_with fail;clear hs1;go_loopw [5,6] (fun rv iv wr=>∃(j z:Nat),j≤n∧Hid (z≤140737488355328+4096 * (d+2))∧rv=.int .i64 (z:Int)∧iv=.int .i64 (j:Int)∧Hid (vwl d ((JN.vs xl).drop j) z=vwl d (JN.vs xl) r0)∧Hid (Mod [] w wr)∧Hid (Blk wr w.heap.size 43 #[.int .i64 xk,.int .i64 xi,.string xt,.slice xA n xc,.slice xB m xd])) (fun _ iv _=>n - (intOf iv).toNat)
 case atStart=>exact⟨0,r0,by omega,hide (by omega),rfl,rfl,hide rfl,HM1,HB1⟩
 case round=>
  obtain⟨j,z,hjn,hz,rfl,rfl,hjz,hmj,hbj⟩:=hrel;have c3:wr.cell? ⟨w.heap.size,3,none⟩=some (.slice xA n xc):=hbj.out.cell 3;by_cases h2:j < n
  ·have hii:(j:Int) < (n:Int):=(by omega);by_cases h3:z < 1024
   ·have hri:(z:Int) < 1024:=(by omega);obtain⟨u,hu⟩:∃u,xl[j]? =some u:=⟨_,List.getElem?_eq_getElem (by have:=HN.out;omega)⟩;obtain⟨g,o,rfl,hg,hc⟩:=(HR.out.new hmj.out).range hu;have HU:=HI.out.new hmj.out;have HWu:=hide (HW.out wr u (HU.at_ hu));have HVu:Hid (vwl d ((JN.vs xl).drop j) z=vwl d ((JN.vs xl).drop (j+1)) (z+vwt d u.v)):=hide (vwl_go (by rw[JN.vs_at,hu];rfl) h3);have HC:=hide hc;have a0:=HQ.out;have a3:IntKind.i64.wrap ((j:Int)+1)=(j:Int)+1:=IntWalk.i64_in _ (by omega);clear hc hu HU h2;go_wp2_with (refine wpList_load_mid rfl 43 _ rfl g (o+j * 5) rfl u.cells.toList _ HC.out rfl rfl (by rw[Array.length_toList,u.cells_size];kernel_rfl) ?_);refine HWu.out.mono ?_;rintro e w3 ⟨k,rfl,hk,hkb,m3⟩;have HMk:=hide (hmj.out.trans m3 (by simp));have HBk:=hide (m3.blk hbj.out (by simp));obtain⟨z',hz'⟩:∃z',z'=z+k:=⟨_,rfl⟩;have a2:IntKind.i64.wrap ((z:Int)+(k:Int))=(z':Int):=(by rw[IntWalk.i64_in _ (by omega)];omega);have HJ:Hid (vwl d ((JN.vs xl).drop (j+1)) z'=vwl d (JN.vs xl) r0):=hide (by rw[hz',hk,←HVu.out];exact hjz.out);have HZ:Hid (z'≤140737488355328+4096 * (d+2)):=hide (by omega);clear hk hkb m3 hz' a0 h3;go_wp2_with fail;refine⟨?rel,?measure⟩
    case rel=>exact⟨j+1,z',by omega,HZ,rfl,by go_num,HJ,HMk,HBk⟩
    case measure=>simp[intOf];omega
   ·have hrd:decide ((z:Int) < 1024)=false:=decide_eq_false (by omega);have HE:Hid (z=vwt (d+1) (JN.mk xk xi xt xA xc xl xB xd xs).v):=hide (by rw[←HT.out,←hjz.out,vwl_stop _ _ _ (.inr h3)]);clear h3 h2 hjz;go_wp2_with fail;go_ret;exact⟨z,rfl,HE.out,hz.out,hmj.out⟩
  ·have hii:decide ((j:Int) < (n:Int))=false:=decide_eq_false (by omega);have hiin:decide (j < n)=false:=decide_eq_false (by omega);have HE:Hid (z=vwt (d+1) (JN.mk xk xi xt xA xc xl xB xd xs).v):=hide (by rw[←HT.out,←hjz.out,vwl_stop _ _ _ (.inl (List.drop_eq_nil_iff.2 (by rw[JN.vs_len];have:=HN.out;omega)))]);clear h2 hjz;go_wp2_with fail;go_ret;exact⟨z,rfl,HE.out,hz.out,hmj.out⟩
theorem vweight_all:∀d,d≤10→VwOk d
 | 0,_=>vweight_zero
 | d+1,h=>vweight_step d h (vweight_all d (by omega))
end Go.Proofs.YtlfjhgamlkbofaaGreatDoor
