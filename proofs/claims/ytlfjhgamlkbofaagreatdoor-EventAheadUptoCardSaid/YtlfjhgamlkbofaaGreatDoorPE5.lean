/-
  Contracts of the functions that the laws of this seat reach, and plain laws, part 12 of 13; no condition.
-/
import Derived.Test.YtlfjhgamlkbofaaGreatDoorPE3
import Derived.Test.YtlfjhgamlkbofaaGreatDoorPC
import Derived.Test.YtlfjhgamlkbofaaGreatDoorPF1
import Derived.Test.YtlfjhgamlkbofaaGreatDoorPJ3
import Derived.Test.YtlfjhgamlkbofaaGreatDoorPE2
import Derived.Test.YtlfjhgamlkbofaaGreatDoorPE1
set_option linter.unusedVariables false
set_option linter.unusedSimpArgs false
set_option linter.unnecessarySimpa false
set_option maxRecDepth 100000
set_option maxHeartbeats 16000000
namespace Go.Proofs.YtlfjhgamlkbofaaGreatDoor
open Go.RowKit Js
theorem granges_le (v:JV):(granges v).length≤v.l.length:=by
 unfold granges
 split <;> simp
theorem ROwn.new2 {w w':World} {B:Nat} {A:Option Addr} {c:Nat} {l:List (Nat×Nat)} (h:ROwn w B A c l) (m:Mod [] w w'):ROwn w' B A c l:=h.mod m (by simp)
def FgPost (tb:Nat) (b:Bool) (w:World) (v:JV) (r:Ending) (w':World):Prop:=∃A c,r=.returned (.agg (fcs A (if wframe v=true then fr0 else gframe v).list.length c (if wframe v=true then fr0 else gframe v)))∧ROwn w' w.heap.size A c (if wframe v=true then fr0 else gframe v).list∧Blk w' tb 82 #[.bool (b || bframe v)]∧Mod [tb] w w'
theorem tframe_any (W w:World) (tb:Nat) (b:Bool) (x:JN) (hx:JIn W x) (hW:Mod [] W w) (htb:W.heap.size≤tb) (hb:Blk w tb 82 #[.bool b]) (hs:(jat x.v 7).l.length≤100000000) (hlen:x.v.k=6→x.v.l.length=x.v.ks.length):
  Calls Tryz.prog 67 #[.pointer (some ⟨tb,0,none⟩),.agg x.cells] w (FgPost tb b w x.v):=by
 obtain⟨k,i,t,A,c,l,B,d,ks⟩:=x
 have hv:(JN.mk k i t A c l B d ks).v=.mk k i t (JN.vs l) ks:=by rw[JN.v]
 rw[hv]at hs hlen ⊢
 have HRw:=hide hx.row
 have HIs:=hide hx.ins
 have HKs:Hid (KeysAt W B ks):=hide (by rw[JIn]at hx;exact hx.2.1)
 have hkl:=hx.len.2
 have HW:=hide hW
 have HTb:=hide htb
 have HLen:Hid (k=6→l.length=ks.length):=hide (fun h=>by have:=hlen h;rw[←JN.vs_len];exact this)
 have HSv:=hide hs
 unfold JN.cells
 dsimp only
 obtain⟨vv,hvv⟩:∃vv:JV,JV.mk k i t (JN.vs l) ks=vv:=⟨_,rfl⟩
 rw[hvv]
 have HVv:=hide hvv
 obtain⟨w1,hw1⟩:∃w1,(w.alloc (.cells #[.int .i64 k,.int .i64 i,.string t,.slice A l.length c,.slice B ks.length d] 43)).alloc (.cells (fcs none 0 0 fr0) 36)=w1:=⟨_,rfl⟩
 have HM1:Hid (Mod [] w w1):=hide (by rw[←hw1];exact((Mod.refl [] w).alloc _).alloc _)
 have HX1:Hid (Blk w1 w.heap.size 43 #[.int .i64 k,.int .i64 i,.string t,.slice A l.length c,.slice B ks.length d]):=hide (by rw[←hw1];exact(Blk.new w 43 #[.int .i64 k,.int .i64 i,.string t,.slice A l.length c,.slice B ks.length d]).alloc _)
 have HRz:Hid (Blk w1 (w.heap.size+1) 36 (fcs none 0 0 fr0)):=hide (by
  rw[←hw1]
  have:=Blk.new (w.alloc (.cells #[.int .i64 k,.int .i64 i,.string t,.slice A l.length c,.slice B ks.length d] 43)) 36 (fcs none 0 0 fr0)
  rw[World.size_alloc]at this
  exact this)
 have HTz:=hide (HM1.out.blk hb (by simp))
 have HMz:Hid (Mod [tb] w w1):=hide (HM1.out.mono (by simp))
 have hlt:=hb.lt
 clear hb hx hW htb hs hlen hv hvv
 go_enter Tryz.func67,Tryz.ntmps67
 go_upto_region 1 with fail
 rw[show(w.alloc (.cells #[.int .i64 k,.int .i64 i,.string t,.slice A l.length c,.slice B ks.length d] 43)).alloc (.cells #[.int .u64 0,.int .u64 0,.int .u64 0,.int .u64 0,.bool false,.string ⟨#[]⟩,.string ⟨#[]⟩,.slice none 0 0] 36)=w1 from hw1]
 clear hw1
 by_cases hk:k=6
 ·obtain rfl:=hk
  have HLe:Hid (l.length=ks.length):=hide (HLen.out rfl)
  clear HLen
  have y0:∀i:Fam (Mod [] w1),i.w.cell? ⟨w.heap.size,0,none⟩=some (.int .i64 6):=fam_cell0 (HX1.out.cell 0) (by simp)
  have y4:∀i:Fam (Mod [] w1),i.w.cell? ⟨w.heap.size,4,none⟩=some (.slice B ks.length d):=fam_cell0 (HX1.out.cell 4) (by simp)
  refine wp_region_plan (Mod [] w1) [] [([0,1,2,3,4,5],6),([],7)] [8,9] (by kernel_rfl) (by kernel_rfl) (fun _ _ _ _ _ h=>h) ((Mod.refl _ w1).drew) ?_
  show wpQuiet _ _ _ _ _ _
  simp only[gd]
  repeat (go_big_quiet_step (fail))
  refine wpQuiet_nil ?_
  clear y0 y4
  obtain⟨dk,hdk⟩:∃dk,decide (ks=fkeys)=dk:=⟨_,rfl⟩
  go_wp2_with fail
  refine(efkeys_any _).mono ?_
  rintro e0 w2 ⟨rfl,hkb,m2⟩
  have hc2:=(Mod.refl [] w1).drew.trans m2 (by simp)
  have HC2:=hide hc2
  have HKb:Hid (KeysAt w2 (some ⟨w1.heap.size,0,none⟩) fkeys):=hide (.inr ⟨_,0,rfl,hkb.lt,fun j x hx=>by rw[Nat.zero_add];exact(hkb.cell j).trans (by rw[List.getElem?_toArray,List.getElem?_map,hx];rfl)⟩)
  clear m2 hkb
  go_wp2_with fail
  refine Ph.on (fun _=>hc2) ?_
  clear hc2
  show wpQuiet _ _ _ _ _ _
  simp only[gd]
  refine wpQuiet_nil ?_
  go_wp2_with fail
  have heq:=(equal_any w2 B (some ⟨w1.heap.size,0,none⟩) d 8 ks fkeys ((HKs.out.new (HW.out.trans (HM1.out.trans HC2.out (by simp)) (by simp)))) HKb.out hkl (by decide))
  rw[hdk]at heq
  refine heq.mono ?_
  clear heq
  rintro e0 w3 ⟨rfl,m3⟩
  have hc3:=HC2.out.trans m3 (by simp)
  have HC3:=hide hc3
  clear m3
  go_wp2_with fail
  refine Ph.on (fun _=>hc3) ?_
  clear hc3
  show wpQuiet _ _ _ _ _ _
  simp only[gd]
  repeat (go_big_quiet_step (fail))
  refine wpQuiet_nil ?_
  have HDk:=hide hdk
  clear hdk
  cases dk with
  | true=>
   have hks:ks=fkeys:=of_decide_eq_true HDk.out
   have HWf:Hid (wframe vv=false):=hide (by rw[←HVv.out,hks];rfl)
   have hl8:l.length=8:=by rw[HLe.out,hks];rfl
   have y3:w3.cell? ⟨w.heap.size,3,none⟩=some (.slice A 8 c):=(HC3.out.cell (p:=⟨w.heap.size,3,none⟩) (Nat.lt_of_lt_of_le (by show w.heap.size < w.heap.size+1;omega) (Nat.le_trans (Nat.le_of_lt (by have:=HRz.out.lt;omega)) (Nat.le_refl _))) (by simp)).trans ((HX1.out.cell 3).trans (by rw[←hl8];rfl))
   have HT5:=hide (HC3.out.blk HTz.out (by simp))
   have HRs5:=hide (HC3.out.blk HRz.out (by simp))
   have HM5:=hide (HMz.out.trans HC3.out (by simp))
   clear HTz HRz HMz hkl HKb hks
   go_upto_region 5 with fail
   clear y3
   obtain⟨p0,p1,p2,p3,p4,p5,p6,p7,hps⟩:∃p0 p1 p2 p3 p4 p5 p6 p7,l= [p0,p1,p2,p3,p4,p5,p6,p7]:=by
    match l,hl8 with
    | [p0,p1,p2,p3,p4,p5,p6,p7],_=>exact⟨p0,p1,p2,p3,p4,p5,p6,p7,rfl⟩
   subst hps
   clear hl8
   obtain⟨g,o,hA,hg,hr0⟩:=HRw.out.range (j:=0) (x:=p0) rfl
   subst hA
   have hWw3:Mod [] W w3:=HW.out.trans HM5.out (fun x hx=> .inr (by simp at hx;rw[hx];exact HTb.out))
   have hWv:∀v,Mod [tb] w3 v→Mod [] W v:=fun v m=>hWw3.trans m (fun x hx=> .inr (by simp at hx;rw[hx];exact HTb.out))
   have HWv:=hide hWv
   have HR0:=hide (row_cls (S:=Mod [tb] w3) hr0 hg hWv)
   clear hr0
   obtain⟨g1,o1,hA1,_,hr1⟩:=HRw.out.range (j:=1) (x:=p1) rfl
   cases hA1
   have HR1:=hide (row_cls (S:=Mod [tb] w3) hr1 hg hWv)
   clear hr1
   obtain⟨g2,o2,hA2,_,hr2⟩:=HRw.out.range (j:=2) (x:=p2) rfl
   cases hA2
   have HR2:=hide (row_cls (S:=Mod [tb] w3) hr2 hg hWv)
   clear hr2
   obtain⟨g3,o3,hA3,_,hr3⟩:=HRw.out.range (j:=3) (x:=p3) rfl
   cases hA3
   have HR3:=hide (row_cls (S:=Mod [tb] w3) hr3 hg hWv)
   clear hr3
   obtain⟨g4,o4,hA4,_,hr4⟩:=HRw.out.range (j:=4) (x:=p4) rfl
   cases hA4
   have HR4:=hide (row_cls (S:=Mod [tb] w3) hr4 hg hWv)
   clear hr4
   obtain⟨g5,o5,hA5,_,hr5⟩:=HRw.out.range (j:=5) (x:=p5) rfl
   cases hA5
   have HR5:=hide (row_cls (S:=Mod [tb] w3) hr5 hg hWv)
   clear hr5
   obtain⟨g6,o6,hA6,_,hr6⟩:=HRw.out.range (j:=6) (x:=p6) rfl
   cases hA6
   have HR6:=hide (row_cls (S:=Mod [tb] w3) hr6 hg hWv)
   clear hr6
   obtain⟨g7,o7,hA7,_,hr7⟩:=HRw.out.range (j:=7) (x:=p7) rfl
   cases hA7
   have HR7:=hide (row_cls (S:=Mod [tb] w3) hr7 hg hWv)
   clear hr7
   have HS7:Hid (p7.v.l.length≤100000000):=hide (by have:=HSv.out;simpa [jat,JV.l,JN.vs] using this)
   have HL7:Hid ((granges p7.v).length≤4611686018427387904):=hide (by have:=granges_le p7.v;have:=HS7.out;omega)
   have HP7:=hide (HIs.out.at_ (j:=7) (x:=p7) rfl)
   clear hWv hWw3
   refine wp_region_float [tb] [42] 41 6 36 (fcs none 0 0 fr0) [([0,1,2,3,5,6,7,8,10,11,12,13,15,16,17,18,20,21,22,23,25,26,27,28,30,31,32,33,35,36,37,38],4),([],9),([],14),([],19),([],24),([],29),([],34),([],39)] [40] [([],42)] [] (by kernel_rfl) (by kernel_rfl) (fun _ _ _ _ _ h=>h) (by intro g hg;simp at hg;rw[hg];exact HT5.out.lt) (by simp) rfl rfl (fun _ _=>by kernel_rfl) (by simp) ?_
   show wpQuiet _ _ _ _ _ _
   simp only[gd]
   repeat (first | (refine wpQuiet_row rfl 43 _ rfl g (o+0 * 5) rfl p0.cells.toList _ HR0.out rfl rfl (by rw[Array.length_toList,p0.cells_size];kernel_rfl) ?_;simp only[pu]) | (refine wpQuiet_row rfl 43 _ rfl g (o+1 * 5) rfl p1.cells.toList _ HR1.out rfl rfl (by rw[Array.length_toList,p1.cells_size];kernel_rfl) ?_;simp only[pu]) | (refine wpQuiet_row rfl 43 _ rfl g (o+2 * 5) rfl p2.cells.toList _ HR2.out rfl rfl (by rw[Array.length_toList,p2.cells_size];kernel_rfl) ?_;simp only[pu]) | (refine wpQuiet_row rfl 43 _ rfl g (o+3 * 5) rfl p3.cells.toList _ HR3.out rfl rfl (by rw[Array.length_toList,p3.cells_size];kernel_rfl) ?_;simp only[pu]) | (refine wpQuiet_row rfl 43 _ rfl g (o+4 * 5) rfl p4.cells.toList _ HR4.out rfl rfl (by rw[Array.length_toList,p4.cells_size];kernel_rfl) ?_;simp only[pu]) | (refine wpQuiet_row rfl 43 _ rfl g (o+5 * 5) rfl p5.cells.toList _ HR5.out rfl rfl (by rw[Array.length_toList,p5.cells_size];kernel_rfl) ?_;simp only[pu]) | (refine wpQuiet_row rfl 43 _ rfl g (o+6 * 5) rfl p6.cells.toList _ HR6.out rfl rfl (by rw[Array.length_toList,p6.cells_size];kernel_rfl) ?_;simp only[pu]) | (refine wpQuiet_row rfl 43 _ rfl g (o+7 * 5) rfl p7.cells.toList _ HR7.out rfl rfl (by rw[Array.length_toList,p7.cells_size];kernel_rfl) ?_;simp only[pu]) | go_big_quiet_step (fail))
   refine wpQuiet_nil ?_
   intro x0 W0 mh
   simp only[pu]
   have HA0:=hide ((Mod.refl [] w3).drew.trans mh (by simp))
   have HT6:=hide (HA0.out.blk HT5.out (by simp))
   have HC0:=hide (HA0.out.mono (G:= [tb]) (by simp))
   clear mh
   go_wp2_with fail
   refine(tnum_any _ tb _ p0 HT6.out).mono ?_
   rintro e0 v0 ⟨rfl,hb0,m0⟩
   have HU0:=hide hb0
   have HV0:=hide (HC0.out.trans m0 (fun x hx=> .inl hx))
   have hm0:=m0
   clear hb0 m0
   go_wp2_with fail
   refine PhF.on hm0 ?_
   clear hm0
   show wpQuiet _ _ _ _ _ _
   simp only[gd]
   refine wpQuiet_nil ?_
   intro x1 W1 mh
   simp only[pu]
   have HC1:=hide (HV0.out.trans mh (by simp))
   have HT7:=hide (mh.blk HU0.out (by simp))
   clear mh
   go_wp2_with fail
   refine(tnum_any _ tb _ p1 HT7.out).mono ?_
   rintro e0 v1 ⟨rfl,hb1,m1⟩
   have HU1:=hide hb1
   have HV1:=hide (HC1.out.trans m1 (fun x hx=> .inl hx))
   have hm1:=m1
   clear hb1 m1
   go_wp2_with fail
   refine PhF.on hm1 ?_
   clear hm1
   show wpQuiet _ _ _ _ _ _
   simp only[gd]
   refine wpQuiet_nil ?_
   intro x2 W2 mh
   simp only[pu]
   have HC2:=hide (HV1.out.trans mh (by simp))
   have HT8:=hide (mh.blk HU1.out (by simp))
   clear mh
   go_wp2_with fail
   refine(tnum_any _ tb _ p2 HT8.out).mono ?_
   rintro e0 v2 ⟨rfl,hb2,m2⟩
   have HU2:=hide hb2
   have HV2:=hide (HC2.out.trans m2 (fun x hx=> .inl hx))
   have hm2:=m2
   clear hb2 m2
   go_wp2_with fail
   refine PhF.on hm2 ?_
   clear hm2
   show wpQuiet _ _ _ _ _ _
   simp only[gd]
   refine wpQuiet_nil ?_
   intro x3 W3 mh
   simp only[pu]
   have HC3:=hide (HV2.out.trans mh (by simp))
   have HT9:=hide (mh.blk HU2.out (by simp))
   clear mh
   go_wp2_with fail
   refine(tnum_any _ tb _ p3 HT9.out).mono ?_
   rintro e0 v3 ⟨rfl,hb3,m3⟩
   have HU3:=hide hb3
   have HV3:=hide (HC3.out.trans m3 (fun x hx=> .inl hx))
   have hm3:=m3
   clear hb3 m3
   go_wp2_with fail
   refine PhF.on hm3 ?_
   clear hm3
   show wpQuiet _ _ _ _ _ _
   simp only[gd]
   refine wpQuiet_nil ?_
   intro x4 W4 mh
   simp only[pu]
   have HC4:=hide (HV3.out.trans mh (by simp))
   have HT10:=hide (mh.blk HU3.out (by simp))
   clear mh
   go_wp2_with fail
   refine(ttruth_any _ tb _ p4 HT10.out).mono ?_
   rintro e0 v4 ⟨rfl,hb4,m4⟩
   have HU4:=hide hb4
   have HV4:=hide (HC4.out.trans m4 (fun x hx=> .inl hx))
   have hm4:=m4
   clear hb4 m4
   go_wp2_with fail
   refine PhF.on hm4 ?_
   clear hm4
   show wpQuiet _ _ _ _ _ _
   simp only[gd]
   refine wpQuiet_nil ?_
   intro x5 W5 mh
   simp only[pu]
   have HC5:=hide (HV4.out.trans mh (by simp))
   have HT11:=hide (mh.blk HU4.out (by simp))
   clear mh
   go_wp2_with fail
   refine(twords_any _ tb _ p5 HT11.out).mono ?_
   rintro e0 v5 ⟨rfl,hb5,m5⟩
   have HU5:=hide hb5
   have HV5:=hide (HC5.out.trans m5 (fun x hx=> .inl hx))
   have hm5:=m5
   clear hb5 m5
   go_wp2_with fail
   refine PhF.on hm5 ?_
   clear hm5
   show wpQuiet _ _ _ _ _ _
   simp only[gd]
   refine wpQuiet_nil ?_
   intro x6 W6 mh
   simp only[pu]
   have HC6:=hide (HV5.out.trans mh (by simp))
   have HT12:=hide (mh.blk HU5.out (by simp))
   clear mh
   go_wp2_with fail
   refine(twords_any _ tb _ p6 HT12.out).mono ?_
   rintro e0 v6 ⟨rfl,hb6,m6⟩
   have HU6:=hide hb6
   have HV6:=hide (HC6.out.trans m6 (fun x hx=> .inl hx))
   have hm6:=m6
   clear hb6 m6
   go_wp2_with fail
   refine PhF.on hm6 ?_
   clear hm6
   show wpQuiet _ _ _ _ _ _
   simp only[gd]
   refine wpQuiet_nil ?_
   intro x7 W7 mh
   simp only[pu]
   have HC7:=hide (HV6.out.trans mh (by simp))
   have HT13:=hide (mh.blk HU6.out (by simp))
   clear mh
   go_wp2_with fail
   refine(tranges_any W _ tb _ p7 HP7.out (HWv.out _ HC7.out) HTb.out HT13.out HS7.out).mono ?_
   rintro e0 v7 ⟨A8,c8,rfl,ho8,hb7,m7⟩
   have HU7:=hide hb7
   have HV7:=hide (HC7.out.trans m7 (fun x hx=> .inl hx))
   have HO7:=hide (ho8.base (Nat.le_trans HM5.out.size HC7.out.size))
   have hm7:=m7
   clear hb7 m7 ho8
   go_wp2_with fail
   refine PhF.on hm7 ?_
   clear hm7
   show wpQuiet _ _ _ _ _ _
   simp only[gd]
   repeat (go_big_quiet_step (fail))
   refine wpQuiet_nil ?_
   rintro _ W8 mh ⟨q,rfl,hqb,hqw⟩
   simp only[pu]
   have HC8:=hide (HV7.out.trans mh (by simp))
   have HU8:=hide (mh.blk HU7.out (by simp))
   have HO8:=hide (HO7.out.mod mh (by simp))
   have HQ8:=hide hqb
   have HQw:=hide hqw
   clear mh hqb hqw HU7 HO7
   show wpQuiet _ _ _ _ _ _
   simp only[gd]
   refine wpQuiet_nil ?_
   have HTq:Hid (tb≠q):=hide (by have:=HQw.out;have:=HT5.out.lt;omega)
   go_wp2_with (refine wpList_store_whole rfl 36 _ _ rfl rfl q 36 (fcs none 0 0 fr0) (fcs A8 (granges p7.v).length c8 ⟨gnum p0.v,gnum p1.v,gnum p2.v,gnum p3.v,gtruth p4.v,p5.v.t,p6.v.t,granges p7.v⟩) HQ8.out rfl rfl (by kernel_rfl) rfl (by kernel_rfl) ?_;intro v9 m9 b9 s9;have HQ9:=hide b9;have HU9:=hide (m9.blk HU8.out (by simp;exact HTq.out));have HO9:=hide (HO8.out.mod m9 (by intro u v h;have:=HO8.out.ne HQ8.out (by decide) u v h;simpa using this));have HM9:=hide ((HM5.out.trans HC8.out (fun x hx=> .inl hx)).trans m9 (fun x hx=> .inr (by simp at hx;rw[hx];exact Nat.le_trans HM5.out.size HQw.out)));have HR9:=hide (m9.blk (HC8.out.blk HRs5.out (by simp;omega)) (by simp;have:=HQw.out;have:=HRs5.out.lt;omega));clear m9 b9 s9)
   refine Ph.on (fun h=>by cases h) ?_
   show wpQuiet _ _ _ _ _ _
   simp only[gd]
   refine wpQuiet_nil ?_
   obtain⟨gf,hgf⟩:∃gf:Fr,⟨gnum p0.v,gnum p1.v,gnum p2.v,gnum p3.v,gtruth p4.v,p5.v.t,p6.v.t,granges p7.v⟩=gf:=⟨_,rfl⟩
   have HO9':Hid (ROwn v9 w.heap.size A8 c8 gf.list):=hide (by rw[←hgf];exact HO9.out)
   have HGf:Hid ((if wframe vv=true then fr0 else gframe vv)=gf):=hide (by
    rw[HWf.out,if_neg (by decide),←HVv.out,←hgf]
    unfold gframe jat JV.l
    simp only[JN.vs]
    rfl)
   obtain⟨fc,hfc⟩:∃fc,fcs A8 (granges p7.v).length c8 ⟨gnum p0.v,gnum p1.v,gnum p2.v,gnum p3.v,gtruth p4.v,p5.v.t,p6.v.t,granges p7.v⟩=fc:=⟨_,rfl⟩
   have HFc:Hid (fcs A8 gf.list.length c8 gf=fc):=hide (by rw[←hgf,←hfc])
   have HQ9':Hid (Blk v9 q 36 fc):=hide (by rw[←hfc];exact HQ9.out)
   have HFz:Hid (fc.size=8):=hide (by rw[←hfc];rfl)
   have HF1:Hid (fc.all (·.oneCell')=true):=hide (by rw[←hfc];simp[fcs,Value.oneCell'])
   obtain⟨mv,hmv⟩:∃mv,fmay gf=mv:=⟨_,rfl⟩
   have hmy:=fun w' (m:Mod [] v9 w')=>may_any w' A8 gf.list.length c8 gf ((HO9'.out.new2 m).rngs (by rw[←hgf];exact HL7.out)) mv hmv
   unfold fval at hmy
   rw[HFc.out]at hmy
   have HMy:=hide hmy
   obtain⟨bq,hbq⟩:∃bq,(b || bnum p0.v || bnum p1.v || bnum p2.v || bnum p3.v || btruth p4.v || bwords p5.v || bwords p6.v || branges p7.v)=bq:=⟨_,rfl⟩
   have HU9':Hid (Blk v9 tb 82 #[.bool bq]):=hide (by rw[←hbq];exact HU9.out)
   have HBb:Hid ((b || bframe vv)=(bq || !mv)):=hide (by
    rw[←hbq,←hmv,←HGf.out,HWf.out,if_neg (by decide)]
    unfold bframe
    rw[HWf.out,←HVv.out]
    have e:∀n:Nat,n < 8→True:=fun _ _=>trivial
    simp only[jat,JV.l,JN.vs,List.getD_cons_zero,List.getD_cons_succ,Bool.false_or]
    simp only[Bool.or_assoc])
   clear hgf hfc hmv hmy hbq HO9 HQ9 HU9
   have z0:v9.cell? ⟨tb,0,none⟩=some (.bool bq):=HU9'.out.cell 0
   have zf:v9.frozen? ⟨tb,0,none⟩=false:=HU9'.out.frozen 0
   have zl:=HU9'.out.lt
   have HXq:=hide HQ9'.out.range
   cases bq with
   | true=>
    go_upto_region 7 with fail
    have HMe:=hide (HM9.out.setCell (p:=⟨tb,0,none⟩) (.inl (by simp)) (.bool true))
    have HTe:=hide (HU9'.out.set_ 0 (.bool true))
    have HRe:=hide (HR9.out.far (p:=⟨tb,0,none⟩) (by show w.heap.size+1≠tb;omega) (.bool true))
    have HOe:=hide (HO9'.out.mod ((Mod.refl [tb] v9).setCell (p:=⟨tb,0,none⟩) (.inl (by simp)) (.bool true)) (by intro u v h;have:=HO9'.out.ne HU9'.out (by decide) u v h;simpa using this))
    have HXq:=hide (HQ9'.out.far (p:=⟨tb,0,none⟩) (by show q≠tb;exact Ne.symm HTq.out) (.bool true)).range
    clear z0 zf zl
    go_wp2_with (first | (refine wpList_load_mid rfl 36 _ rfl q 0 rfl fc.toList _ HXq.out rfl rfl (by rw[Array.length_toList,HFz.out];kernel_rfl) ?_) | (refine wpList_store_whole rfl 36 _ _ rfl rfl (w.heap.size+1) 36 (fcs none 0 0 fr0) fc HRe.out rfl rfl (by rw[HFz.out];kernel_rfl) (by rw[HFz.out];rfl) HF1.out ?_;intro w9 m9 b9 s9;have HMf:=hide (HMe.out.trans m9 (by intro x hx;right;simp at hx;omega));have HBf:=hide b9;have HTf:=hide (m9.blk HTe.out (by simp;omega));have HOf:=hide (HOe.out.mod m9 (by intro u v h;have:=HOe.out.ne HRe.out (by decide) u v h;simpa using this));clear m9 b9 s9))
    refine bodyPost_ret (results_cell_row rfl _ _ (w.heap.size+1) 36 fc (0,0) _ rfl HBf.out Tryz.underlying36 rfl (by rw[HFz.out];kernel_rfl)) rfl ?_
    refine⟨A8,c8,by rw[HGf.out,←HFc.out],by rw[HGf.out];exact HOf.out,?_,HMf.out⟩
    rw[HBb.out]
    exact HTf.out
   | false=>
    go_upto_region 7 with(refine wpList_load_want (by kernel_rfl) 36 _ rfl q 0 rfl fc.toList _ HXq.out rfl rfl (by rw[Array.length_toList,HFz.out];kernel_rfl) ?_)
    refine(HMy.out v9 (Mod.refl [] v9)).mono ?_
    rintro e0 v10 ⟨rfl,m10⟩
    have HTy:=hide (m10.blk HU9'.out (by simp))
    have HQy:=hide (m10.blk HQ9'.out (by simp))
    have HRy:=hide (m10.blk HR9.out (by simp))
    have HOy:=hide (HO9'.out.new2 m10)
    have HMq:=hide (HM9.out.trans m10 (by simp))
    have zf2:v10.frozen? ⟨tb,0,none⟩=false:=HTy.out.frozen 0
    have z2:v10.cell? ⟨tb,0,none⟩=some (.bool false):=HTy.out.cell 0
    have zl2:=HTy.out.lt
    clear m10 z0 zf zl HXq
    go_upto_region 7 with fail
    have HMe:=hide (HMq.out.setCell (p:=⟨tb,0,none⟩) (.inl (by simp)) (.bool (!mv)))
    have HTe:=hide (HTy.out.set_ 0 (.bool (!mv)))
    have HRe:=hide (HRy.out.far (p:=⟨tb,0,none⟩) (by show w.heap.size+1≠tb;omega) (.bool (!mv)))
    have HOe:=hide (HOy.out.mod ((Mod.refl [tb] v10).setCell (p:=⟨tb,0,none⟩) (.inl (by simp)) (.bool (!mv))) (by intro u v h;have:=HOy.out.ne HTy.out (by decide) u v h;simpa using this))
    have HXq:=hide (HQy.out.far (p:=⟨tb,0,none⟩) (by show q≠tb;exact Ne.symm HTq.out) (.bool (!mv))).range
    clear z2 zf2 zl2
    go_wp2_with (first | (refine wpList_load_mid rfl 36 _ rfl q 0 rfl fc.toList _ HXq.out rfl rfl (by rw[Array.length_toList,HFz.out];kernel_rfl) ?_) | (refine wpList_store_whole rfl 36 _ _ rfl rfl (w.heap.size+1) 36 (fcs none 0 0 fr0) fc HRe.out rfl rfl (by rw[HFz.out];kernel_rfl) (by rw[HFz.out];rfl) HF1.out ?_;intro w9 m9 b9 s9;have HMf:=hide (HMe.out.trans m9 (by intro x hx;right;simp at hx;omega));have HBf:=hide b9;have HTf:=hide (m9.blk HTe.out (by simp;omega));have HOf:=hide (HOe.out.mod m9 (by intro u v h;have:=HOe.out.ne HRe.out (by decide) u v h;simpa using this));clear m9 b9 s9))
    refine bodyPost_ret (results_cell_row rfl _ _ (w.heap.size+1) 36 fc (0,0) _ rfl HBf.out Tryz.underlying36 rfl (by rw[HFz.out];kernel_rfl)) rfl ?_
    refine⟨A8,c8,by rw[HGf.out,←HFc.out],by rw[HGf.out];exact HOf.out,?_,HMf.out⟩
    rw[HBb.out]
    rw[Bool.false_or];exact HTf.out
  | false=>
   have hks:ks≠fkeys:=of_decide_eq_false HDk.out
   have HWf:Hid (wframe vv=true):=hide (by rw[←HVv.out];unfold wframe JV.ks;simp[hks])
   clear hks
   have HTz2:=hide (HC3.out.blk HTz.out (by simp))
   have HRz2:=hide (HC3.out.blk HRz.out (by simp))
   have HMz2:=hide (HMz.out.trans HC3.out (by simp))
   have HMs:Hid (Mod [tb] w (w3.setCell ⟨tb,0,none⟩ (.bool true))):=hide (HMz2.out.setCell (p:=⟨tb,0,none⟩) (.inl (by simp)) _)
   have HTs:Hid (Blk (w3.setCell ⟨tb,0,none⟩ (.bool true)) tb 82 #[.bool true]):=hide (HTz2.out.set_ 0 (.bool true))
   have HRs:=hide (HRz2.out.far (p:=⟨tb,0,none⟩) (by show w.heap.size+1≠tb;omega) (.bool true))
   have z0:w3.cell? ⟨tb,0,none⟩=some (.bool b):=HTz2.out.cell 0
   have zf:w3.frozen? ⟨tb,0,none⟩=false:=HTz2.out.frozen 0
   have zl:=HTz2.out.lt
   go_wp2_with (refine wpList_store_whole rfl 36 _ _ rfl rfl (w.heap.size+1) 36 (fcs none 0 0 fr0) (fcs none 0 0 fr0) HRs.out rfl rfl (by kernel_rfl) rfl (by kernel_rfl) ?_;intro w9 m9 b9 s9;have HM9:=hide (HMs.out.trans m9 (by intro x hx;right;simp at hx;omega));have HB9:=hide b9;have HT9:=hide (m9.blk HTs.out (by simp;omega));clear m9 b9 s9)
   refine bodyPost_ret (results_cell_row rfl _ _ (w.heap.size+1) 36 (fcs none 0 0 fr0) (0,0) _ rfl HB9.out Tryz.underlying36 rfl (by kernel_rfl)) rfl ?_
   refine⟨none,0,by rw[if_pos HWf.out];rfl,by rw[if_pos HWf.out];exact ROwn.nil _ _,?_,HM9.out⟩
   have:bframe vv=true:=by unfold bframe;rw[HWf.out];rfl
   rw[this,Bool.or_true]
   exact HT9.out
 ·have e6:(k !=6)=true:=by simpa using hk
  have HWf:Hid (wframe vv=true):=hide (by rw[←HVv.out];unfold wframe JV.k;simp[hk])
  have y0:w1.cell? ⟨w.heap.size,0,none⟩=some (.int .i64 k):=HX1.out.cell 0
  clear hk
  go_quiet (fail)
  obtain⟨w3,hw3⟩:∃w3,w1.drewN nq=w3:=⟨_,rfl⟩
  have HC3:Hid (Mod [] w1 w3):=hide (by rw[←hw3];exact(Mod.refl [] w1).drewN nq)
  rw[hw3]
  clear hw3 y0
  have HTz2:=hide (HC3.out.blk HTz.out (by simp))
  have HRz2:=hide (HC3.out.blk HRz.out (by simp))
  have HMz2:=hide (HMz.out.trans HC3.out (by simp))
  have HMs:Hid (Mod [tb] w (w3.setCell ⟨tb,0,none⟩ (.bool true))):=hide (HMz2.out.setCell (p:=⟨tb,0,none⟩) (.inl (by simp)) _)
  have HTs:Hid (Blk (w3.setCell ⟨tb,0,none⟩ (.bool true)) tb 82 #[.bool true]):=hide (HTz2.out.set_ 0 (.bool true))
  have HRs:=hide (HRz2.out.far (p:=⟨tb,0,none⟩) (by show w.heap.size+1≠tb;omega) (.bool true))
  have z0:w3.cell? ⟨tb,0,none⟩=some (.bool b):=HTz2.out.cell 0
  have zf:w3.frozen? ⟨tb,0,none⟩=false:=HTz2.out.frozen 0
  have zl:=HTz2.out.lt
  go_wp2_with (refine wpList_store_whole rfl 36 _ _ rfl rfl (w.heap.size+1) 36 (fcs none 0 0 fr0) (fcs none 0 0 fr0) HRs.out rfl rfl (by kernel_rfl) rfl (by kernel_rfl) ?_;intro w9 m9 b9 s9;have HM9:=hide (HMs.out.trans m9 (by intro x hx;right;simp at hx;omega));have HB9:=hide b9;have HT9:=hide (m9.blk HTs.out (by simp;omega));clear m9 b9 s9)
  refine bodyPost_ret (results_cell_row rfl _ _ (w.heap.size+1) 36 (fcs none 0 0 fr0) (0,0) _ rfl HB9.out Tryz.underlying36 rfl (by kernel_rfl)) rfl ?_
  refine⟨none,0,by rw[if_pos HWf.out];rfl,by rw[if_pos HWf.out];exact ROwn.nil _ _,?_,HM9.out⟩
  have:bframe vv=true:=by unfold bframe;rw[HWf.out];rfl
  rw[this,Bool.or_true]
  exact HT9.out
def OfPost (w:World) (v:JV) (r:Ending) (w':World):Prop:=∃(A:Option Addr) (c:Nat) (e:Ev),r=.returned (.tuple #[evval A e.f.list.length c e,.int .i64 (if(eof v).isSome then 0 else 2)])∧(match eof v with | some e'=>e=e' | none=>e=ev0)∧ROwn w' w.heap.size A c e.f.list∧e.f.list.length≤64∧Mod [] w w'
theorem gnum_lt (v:JV):gnum v < 4611686018427387904:=by
 unfold gnum
 split
 ·omega
 ·rename_i h
  unfold bnum at h
  simp at h
  omega
theorem jmay_keys {d:Nat} {v:JV} (h:jmay d v=true) (hk:v.k=6):v.l.length=v.ks.length:=by
 obtain⟨a1,a2,a3,a4,a5⟩:=v
 have h2:=(jmay_parts h).2.2.2.2.2.1
 have hk:a1=6:=hk
 rw[if_pos hk]at h2
 exact h2.symm
theorem KeysAt.take {w:World} {B:Option Addr} {ks:List ByteArray} (h:KeysAt w B ks) (n:Nat):KeysAt w B (ks.take n):=by
 rcases h with h | ⟨g,o,h1,h2,h3⟩
 ·exact .inl (by rw[h];simp)
 ·refine .inr ⟨g,o,h1,h2,fun j x hx=>h3 j x ?_⟩
  rw[List.getElem?_take]at hx
  split at hx
  ·exact hx
  ·cases hx
theorem ev_short {e:Ev} (h:emay e=true):e.f.list.length≤64:=by
 rcases(emay_iff.1 h).fr with h1 | ⟨_,h1⟩
 ·rw[h1];simp[fr0]
 ·exact(fmay_ok h1).len
theorem OfPost.no {w w':World} {v:JV} (h:eof v=none) (m:Mod [] w w'):OfPost w v (.returned (.tuple #[.agg (ecs none 0 0 ev0),.int .i64 2])) w':=
 ⟨none,0,ev0,by rw[h];rfl,by rw[h],ROwn.nil _ _,by simp[ev0,fr0],m⟩
theorem eof_any (W w:World) (x:JN) (hx:JIn W x) (hW:Mod [] W w) (hs:jmay 8 x.v=true→(jat (jat x.v 6) 7).l.length≤100000000):Calls Tryz.prog 29 #[.agg x.cells] w (OfPost w x.v):=by
 have hmj:=fun (w':World) (m:Mod [] W w')=>jmay_any w' x (hx.new m) _ rfl
 obtain⟨k,i,t,A,c,l,B,d,ks⟩:=x
 have hv:(JN.mk k i t A c l B d ks).v=.mk k i t (JN.vs l) ks:=by rw[JN.v]
 rw[hv]at hs hmj ⊢
 have HRw:=hide hx.row
 have HIs:=hide hx.ins
 have HKs:Hid (KeysAt W B ks):=hide (by rw[JIn]at hx;exact hx.2.1)
 have hkl:=hx.len.2
 have hkd:ks.length≤d:=by rw[JIn]at hx;exact hx.1.2.2
 have HW:=hide hW
 have HSv:=hide hs
 obtain⟨xc,hxc⟩:∃xc,(JN.mk k i t A c l B d ks).cells=xc:=⟨_,rfl⟩
 have HXc:Hid (#[.int .i64 k,.int .i64 i,.string t,.slice A l.length c,.slice B ks.length d]=xc):=hide hxc
 have HXz:Hid (xc.size=5):=hide (by rw[←hxc];exact JN.cells_size _)
 obtain⟨vv,hvv⟩:∃vv:JV,JV.mk k i t (JN.vs l) ks=vv:=⟨_,rfl⟩
 obtain⟨mj,hmj2⟩:∃mj,jmay 8 vv=mj:=⟨_,rfl⟩
 rw[hvv,hmj2,hxc]at hmj
 rw[hvv,hxc]
 have HMay:=hide hmj
 have HMj:=hide hmj2
 have HVv:=hide hvv
 obtain⟨n,hn⟩:∃n,ks.length=n:=⟨_,rfl⟩
 have HN:=hide hn
 rw[hn]at hkl hkd
 obtain⟨w1,hw1⟩:∃w1,(w.alloc (.cells xc 43)).alloc (.cells (ecs none 0 0 ev0) 38)=w1:=⟨_,rfl⟩
 have HM1:Hid (Mod [] w w1):=hide (by rw[←hw1];exact((Mod.refl [] w).alloc _).alloc _)
 have HX1:Hid (Blk w1 w.heap.size 43 xc):=hide (by rw[←hw1];exact(Blk.new w 43 xc).alloc _)
 have HR1:Hid (Blk w1 (w.heap.size+1) 38 (ecs none 0 0 ev0)):=hide (by
  rw[←hw1]
  have:=Blk.new (w.alloc (.cells xc 43)) 38 (ecs none 0 0 ev0)
  rw[World.size_alloc]at this
  exact this)
 clear hx hW hs hv hvv hmj hmj2 hxc hn
 go_enter Tryz.func29,Tryz.ntmps29
 go_upto_region 1 with fail
 rw[show(w.alloc (.cells xc 43)).alloc (.cells #[.int .i64 0,.int .i64 0,.int .u64 0,.int .u64 0,.int .u64 0,.string ⟨#[]⟩,.int .u64 0,.int .u64 0,.int .u64 0,.int .u64 0,.bool false,.string ⟨#[]⟩,.string ⟨#[]⟩,.slice none 0 0] 38)=w1 from hw1]
 clear hw1
 go_wp2_with fail
 refine(ekeys_any w1).mono ?_
 rintro e0 w2 ⟨rfl,hk2,m2⟩
 have hkk:ekeys.length=6:=rfl
 rw[hkk]
 clear hkk
 have HM12:=hide ((HW.out.trans HM1.out (by simp)).trans m2 (by simp))
 have HM2:=hide (HM1.out.trans m2 (by simp))
 have HX2:=hide (m2.blk HX1.out (by simp))
 have HR2:=hide (m2.blk HR1.out (by simp))
 clear hk2 m2
 go_upto_region 2 with fail
 by_cases hk:k=6
 ·obtain rfl:=hk
  have y0:∀i:Fam (Mod [] w2),i.w.cell? ⟨w.heap.size,0,none⟩=some (.int .i64 6):=fam_cell0 ((HX2.out.cell 0).trans (by rw[←HXc.out];rfl)) (by simp)
  have y4:∀i:Fam (Mod [] w2),i.w.cell? ⟨w.heap.size,4,none⟩=some (.slice B n d):=fam_cell0 ((HX2.out.cell 4).trans (by rw[←HXc.out,←HN.out];rfl)) (by simp)
  refine wp_region_plan (Mod [] w2) [] [([0,1,2,3,4],5),([6,7,8,9,10,11,12,13,14,15,16,17,18,19],20),([],21)] [22,23,24,25,26,27,28,29,30,31] (by kernel_rfl) (by kernel_rfl) (fun _ _ _ _ _ h=>h) ((Mod.refl _ w2).drew) ?_
  show wpQuiet _ _ _ _ _ _
  simp only[gd]
  repeat (first | (refine wpQuiet_row_want (by kernel_rfl) 43 _ rfl w.heap.size 0 rfl xc.toList _ (cls_row HX2.out (Mod.refl _ w2) HX2.out.lt (by simp)) rfl rfl (by rw[Array.length_toList,HXz.out];kernel_rfl) ?_;simp only[pu]) | go_big_quiet_step (fail))
  refine wpQuiet_nil ?_
  go_wp2_with fail
  refine(HMay.out _ (HM12.out.trans (Mod.refl [] w2).drew (by simp))).mono ?_
  rintro e0 w3 ⟨rfl,m3⟩
  have hc3:=(Mod.refl [] w2).drew.trans m3 (by simp)
  clear m3
  go_wp2_with fail
  refine Ph.on (fun _=>hc3) ?_
  cases mj with
  | false=>
   have HNo:Hid (eof vv=none):=hide (by unfold eof wev;rw[HMj.out];simp)
   show wpQuiet _ _ _ _ _ _
   simp only[gd]
   repeat (go_big_quiet_step (fail))
   refine wpQuiet_nil ?_
   go_wp2_with fail
   refine Ph.on (fun _=>hc3) ?_
   show wpQuiet _ _ _ _ _ _
   simp only[gd]
   repeat (go_big_quiet_step (fail))
   refine wpQuiet_nil ?_
   go_wp2_with fail
   refine Ph.on (fun _=>hc3) ?_
   show wpQuiet _ _ _ _ _ _
   simp only[gd]
   repeat (go_big_quiet_step (fail))
   refine wpQuiet_nil ?_
   have HMb:=hide (HM2.out.trans hc3 (by simp))
   have HRb:=hide ((hc3).blk HR2.out (by simp))
   go_wp2_with (refine wpList_store_whole rfl 38 _ _ rfl rfl (w.heap.size+1) 38 (ecs none 0 0 ev0) (ecs none 0 0 ev0) HRb.out rfl rfl (by kernel_rfl) rfl (by kernel_rfl) ?_;intro w9 m9 b9 s9;have HM9:=hide (HMb.out.trans m9 (by intro x hx;right;simp at hx;omega));have HB9:=hide b9;clear m9 b9 s9)
   refine bodyPost_ret (results_cell_tmp_row rfl _ _ (w.heap.size+1) 38 (ecs none 0 0 ev0) _ rfl HB9.out Tryz.underlying38 rfl (by kernel_rfl)) rfl ?_
   exact OfPost.no HNo.out HM9.out
  | true=>
   by_cases h6:n < 6
   ·have HNo:Hid (eof vv=none):=hide (by unfold eof wev;rw[←HVv.out];unfold JV.ks;rw[HN.out];simp;omega)
    have hd6:decide ((n:Int) < 6)=true:=decide_eq_true (by omega)
    show wpQuiet _ _ _ _ _ _
    simp only[gd]
    repeat (go_big_quiet_step (fail))
    refine wpQuiet_nil ?_
    go_wp2_with fail
    refine Ph.on (fun _=>hc3) ?_
    show wpQuiet _ _ _ _ _ _
    simp only[gd]
    repeat (go_big_quiet_step (fail))
    refine wpQuiet_nil ?_
    go_wp2_with fail
    refine Ph.on (fun _=>hc3) ?_
    show wpQuiet _ _ _ _ _ _
    simp only[gd]
    repeat (go_big_quiet_step (fail))
    refine wpQuiet_nil ?_
    have HMb:=hide (HM2.out.trans hc3 (by simp))
    have HRb:=hide ((hc3).blk HR2.out (by simp))
    go_wp2_with (refine wpList_store_whole rfl 38 _ _ rfl rfl (w.heap.size+1) 38 (ecs none 0 0 ev0) (ecs none 0 0 ev0) HRb.out rfl rfl (by kernel_rfl) rfl (by kernel_rfl) ?_;intro w9 m9 b9 s9;have HM9:=hide (HMb.out.trans m9 (by intro x hx;right;simp at hx;omega));have HB9:=hide b9;clear m9 b9 s9)
    refine bodyPost_ret (results_cell_tmp_row rfl _ _ (w.heap.size+1) 38 (ecs none 0 0 ev0) _ rfl HB9.out Tryz.underlying38 rfl (by kernel_rfl)) rfl ?_
    exact OfPost.no HNo.out HM9.out
   ·have h6d:(6:Int)≤d:=by omega
    have h6n:6≤d:=by omega
    have hd6:decide ((n:Int) < 6)=false:=decide_eq_false (by omega)
    show wpQuiet _ _ _ _ _ _
    simp only[gd]
    repeat (go_big_quiet_step (fail))
    refine wpQuiet_nil ?_
    clear h6d y0 hd6
    have hql:(ks.take 6).length=6:=by rw[List.length_take,HN.out];omega
    have hkk:ekeys.length=6:=rfl
    go_wp2_with fail
    refine(ekeys_any w3).mono ?_
    rintro e0 w4 ⟨rfl,hkb,m4⟩
    have HKb:Hid (KeysAt w4 (some ⟨w3.heap.size,0,none⟩) ekeys):=hide (.inr ⟨_,0,rfl,hkb.lt,fun j x hx=>by rw[Nat.zero_add];exact(hkb.cell j).trans (by rw[List.getElem?_toArray,List.getElem?_map,hx];rfl)⟩)
    rw[hkk]
    have hc4:=hc3.trans m4 (by simp)
    clear m4 hkb hc3
    go_wp2_with fail
    refine Ph.on (fun _=>hc4) ?_
    show wpQuiet _ _ _ _ _ _
    simp only[gd]
    refine wpQuiet_nil ?_
    obtain⟨dk,hdk⟩:∃dk,decide (ks.take 6=ekeys)=dk:=⟨_,rfl⟩
    have heq:=equal_any w4 B (some ⟨w3.heap.size,0,none⟩) d 6 (ks.take 6) ekeys ((HKs.out.take 6).new (HM12.out.trans hc4 (by simp))) HKb.out (by rw[hql];unfold jmax;omega) (by decide)
    rw[hql,hkk,hdk]at heq
    have HEqu:=hide heq
    have HDk:=hide hdk
    clear heq hdk hql hkk HKb
    go_wp2_with fail
    refine HEqu.out.mono ?_
    rintro e0 w5 ⟨rfl,m5⟩
    have hc5:=hc4.trans m5 (by simp)
    clear m5 hc4 HEqu
    go_wp2_with fail
    refine Ph.on (fun _=>hc5) ?_
    cases dk with
    | false=>
     have HNo:Hid (eof vv=none):=hide (by unfold eof wev;rw[←HVv.out];unfold JV.ks;simp[of_decide_eq_false HDk.out])
     show wpQuiet _ _ _ _ _ _
     simp only[gd]
     repeat (go_big_quiet_step (fail))
     refine wpQuiet_nil ?_
     have HMb:=hide (HM2.out.trans hc5 (by simp))
     have HRb:=hide ((hc5).blk HR2.out (by simp))
     go_wp2_with (refine wpList_store_whole rfl 38 _ _ rfl rfl (w.heap.size+1) 38 (ecs none 0 0 ev0) (ecs none 0 0 ev0) HRb.out rfl rfl (by kernel_rfl) rfl (by kernel_rfl) ?_;intro w9 m9 b9 s9;have HM9:=hide (HMb.out.trans m9 (by intro x hx;right;simp at hx;omega));have HB9:=hide b9;clear m9 b9 s9)
     refine bodyPost_ret (results_cell_tmp_row rfl _ _ (w.heap.size+1) 38 (ecs none 0 0 ev0) _ rfl HB9.out Tryz.underlying38 rfl (by kernel_rfl)) rfl ?_
     exact OfPost.no HNo.out HM9.out
    | true=>
     by_cases h7:7 < n
     ·have HNo:Hid (eof vv=none):=hide (by unfold eof wev;rw[←HVv.out];unfold JV.ks;rw[HN.out];simp;omega)
      have hd7:decide ((7:Int) < (n:Int))=true:=decide_eq_true (by omega)
      show wpQuiet _ _ _ _ _ _
      simp only[gd]
      repeat (go_big_quiet_step (fail))
      refine wpQuiet_nil ?_
      have HMb:=hide (HM2.out.trans hc5 (by simp))
      have HRb:=hide ((hc5).blk HR2.out (by simp))
      go_wp2_with (refine wpList_store_whole rfl 38 _ _ rfl rfl (w.heap.size+1) 38 (ecs none 0 0 ev0) (ecs none 0 0 ev0) HRb.out rfl rfl (by kernel_rfl) rfl (by kernel_rfl) ?_;intro w9 m9 b9 s9;have HM9:=hide (HMb.out.trans m9 (by intro x hx;right;simp at hx;omega));have HB9:=hide b9;clear m9 b9 s9)
      refine bodyPost_ret (results_cell_tmp_row rfl _ _ (w.heap.size+1) 38 (ecs none 0 0 ev0) _ rfl HB9.out Tryz.underlying38 rfl (by kernel_rfl)) rfl ?_
      exact OfPost.no HNo.out HM9.out
     ·have HWe:Hid (wev vv=false):=hide (by
       unfold wev
       rw[HMj.out,←HVv.out]
       show(!(decide ((6:Int)=6) && true && decide (6≤ks.length) && decide (ks.take 6=ekeys) && decide (ks.length≤7)))=false
       rw[HN.out,HDk.out,decide_eq_true (show 6≤n by omega),decide_eq_true (show n≤7 by omega)]
       rfl)
      have hd7:decide ((7:Int) < (n:Int))=false:=decide_eq_false (by omega)
      show wpQuiet _ _ _ _ _ _
      simp only[gd]
      repeat (go_big_quiet_step (fail))
      refine wpQuiet_nil ?_
      have hln:l.length=n:=by
       have h:=HMj.out
       rw[←HVv.out]at h
       have h2:=(jmay_parts h).2.2.2.2.2.1
       rw[if_pos rfl,JN.vs_len,HN.out]at h2
       exact h2.symm
      obtain⟨p0,p1,p2,p3,p4,p5,tl,hps⟩:∃p0 p1 p2 p3 p4 p5 tl,l=p0 ::p1 ::p2 ::p3 ::p4 ::p5 ::tl:=by
       match l,hln with
       | p0 ::p1 ::p2 ::p3 ::p4 ::p5 ::tl,_=>exact⟨p0,p1,p2,p3,p4,p5,tl,rfl⟩
       | [],h=>simp at h;omega
       | [_],h=>simp at h;omega
       | [_,_],h=>simp at h;omega
       | [_,_,_],h=>simp at h;omega
       | [_,_,_,_],h=>simp at h;omega
       | [_,_,_,_,_],h=>simp at h;omega
      subst hps
      have htl:tl.length+6=n:=by simpa using hln
      have HX5:=hide (hc5.blk HX2.out (by simp))
      have HR5:=hide (hc5.blk HR2.out (by simp))
      have HM5:=hide (HM2.out.trans hc5 (by simp))
      have HW5:=hide (HM12.out.trans hc5 (by simp))
      obtain⟨w6,hw6⟩:∃w6,w5.alloc (.cells #[.bool false] 82)=w6:=⟨_,rfl⟩
      obtain⟨tb,htb⟩:∃tb,w5.heap.size=tb:=⟨_,rfl⟩
      have m6:Mod [] w5 w6:=by rw[←hw6];exact(Mod.refl [] w5).alloc _
      have HT6:Hid (Blk w6 tb 82 #[.bool false]):=hide (by rw[←hw6,←htb];exact Blk.new w5 82 #[.bool false])
      have HTb:Hid (W.heap.size≤tb):=hide (by rw[←htb];exact HW5.out.size)
      have HTw:Hid (w.heap.size+2≤tb):=hide (by rw[←htb];exact HR5.out.lt)
      have HX6:=hide (m6.blk HX5.out (by simp))
      have y3:w6.cell? ⟨w.heap.size,3,none⟩=some (.slice A n c):=(HX6.out.cell 3).trans (by rw[←HXc.out,←hln];rfl)
      have HR6:=hide (m6.blk HR5.out (by simp))
      have HM6:=hide (HM5.out.trans m6 (by simp))
      have HW6:=hide (HW5.out.trans m6 (by simp))
      clear m6 hc5 hln HX5 HR5 HM5 HW5 HX2 HR2 HM12 HM2
      go_upto_region 6 with fail
      try rw[hw6]
      try rw[htb]
      clear hw6 htb y3
      obtain⟨g,o,hA,hg,hr0⟩:=HRw.out.range (j:=0) (x:=p0) rfl
      subst hA
      have hWv:∀v,Mod [tb] w6 v→Mod [] W v:=fun v m=>HW6.out.trans m (fun x hx=> .inr (by simp at hx;rw[hx];exact HTb.out))
      have HWv:=hide hWv
      have HR_0:=hide (row_cls (S:=Mod [tb] w6) hr0 hg hWv)
      clear hr0
      obtain⟨g1,o1,hA1,_,hr1⟩:=HRw.out.range (j:=1) (x:=p1) rfl
      cases hA1
      have HR_1:=hide (row_cls (S:=Mod [tb] w6) hr1 hg hWv)
      clear hr1
      obtain⟨g2,o2,hA2,_,hr2⟩:=HRw.out.range (j:=2) (x:=p2) rfl
      cases hA2
      have HR_2:=hide (row_cls (S:=Mod [tb] w6) hr2 hg hWv)
      clear hr2
      obtain⟨g3,o3,hA3,_,hr3⟩:=HRw.out.range (j:=3) (x:=p3) rfl
      cases hA3
      have HR_3:=hide (row_cls (S:=Mod [tb] w6) hr3 hg hWv)
      clear hr3
      obtain⟨g4,o4,hA4,_,hr4⟩:=HRw.out.range (j:=4) (x:=p4) rfl
      cases hA4
      have HR_4:=hide (row_cls (S:=Mod [tb] w6) hr4 hg hWv)
      clear hr4
      obtain⟨g5,o5,hA5,_,hr5⟩:=HRw.out.range (j:=5) (x:=p5) rfl
      cases hA5
      have HR_5:=hide (row_cls (S:=Mod [tb] w6) hr5 hg hWv)
      clear hr5
      clear hWv
      have hn6:6≤n:=by omega
      have q0:IntKind.i64.wrap ((gnum p0.v:Nat):Int)=((gnum p0.v:Nat):Int):=IntWalk.i64_in _ (by have:=gnum_lt p0.v;omega)
      have q2:IntKind.i64.wrap ((gnum p2.v:Nat):Int)=((gnum p2.v:Nat):Int):=IntWalk.i64_in _ (by have:=gnum_lt p2.v;omega)
      have hbd:=ev_built (gnum p0.v) (gnum p1.v) (gnum p2.v) (gnum p3.v) (gnum p4.v) p5.v.t
      obtain⟨cs,hcs⟩:∃cs,ecs none 0 0 ⟨gnum p0.v,gnum p2.v,gnum p1.v,gnum p3.v,gnum p4.v,p5.v.t,fr0⟩=cs:=⟨_,rfl⟩
      rw[hcs]at hbd
      have HBd:=hide hbd
      have HCz:Hid (cs.size=14):=hide (by rw[←hcs];rfl)
      have HOne:Hid (cs.all (·.oneCell')=true):=hide (by rw[←hcs];exact ecs_one _ _ _ _)
      have HCs:=hide hcs
      clear hbd hcs
      refine wp_region_float [tb] [34] 33 7 38 (ecs none 0 0 ev0) [([0,1,2,3,6,7,8,9,11,12,13,14,17,18,19,20,22,23,24,25,27,28,29,30],4),([5],10),([],15),([16],21),([],26),([],31)] [32] [([],34)] [] (by kernel_rfl) (by kernel_rfl) (fun _ _ _ _ _ h=>h) (by intro g hg;simp at hg;rw[hg];exact HT6.out.lt) (by simp) rfl rfl (fun _ _=>by kernel_rfl) (by simp) ?_
      show wpQuiet _ _ _ _ _ _
      simp only[gd]
      repeat (first | (refine wpQuiet_row rfl 43 _ rfl g (o+0 * 5) rfl p0.cells.toList _ HR_0.out rfl rfl (by rw[Array.length_toList,p0.cells_size];kernel_rfl) ?_;simp only[pu]) | (refine wpQuiet_row rfl 43 _ rfl g (o+1 * 5) rfl p1.cells.toList _ HR_1.out rfl rfl (by rw[Array.length_toList,p1.cells_size];kernel_rfl) ?_;simp only[pu]) | (refine wpQuiet_row rfl 43 _ rfl g (o+2 * 5) rfl p2.cells.toList _ HR_2.out rfl rfl (by rw[Array.length_toList,p2.cells_size];kernel_rfl) ?_;simp only[pu]) | (refine wpQuiet_row rfl 43 _ rfl g (o+3 * 5) rfl p3.cells.toList _ HR_3.out rfl rfl (by rw[Array.length_toList,p3.cells_size];kernel_rfl) ?_;simp only[pu]) | (refine wpQuiet_row rfl 43 _ rfl g (o+4 * 5) rfl p4.cells.toList _ HR_4.out rfl rfl (by rw[Array.length_toList,p4.cells_size];kernel_rfl) ?_;simp only[pu]) | (refine wpQuiet_row rfl 43 _ rfl g (o+5 * 5) rfl p5.cells.toList _ HR_5.out rfl rfl (by rw[Array.length_toList,p5.cells_size];kernel_rfl) ?_;simp only[pu]) | go_big_quiet_step (fail))
      refine wpQuiet_nil ?_
      intro x0 W0 mh
      simp only[pu]
      have HC0:=hide (((Mod.refl [] w6).drew.trans mh (by simp)).mono (G:= [tb]) (by simp))
      have HT7:=hide (mh.blk (show Blk w6.drew tb _ _ from HT6.out) (by simp))
      clear mh
      go_wp2_with fail
      refine(tnum_any _ tb _ p0 HT7.out).mono ?_
      rintro e0 v0 ⟨rfl,hb0,m0⟩
      have HU0:=hide hb0
      have HV0:=hide (HC0.out.trans m0 (fun x hx=> .inl hx))
      have hm0:=m0
      clear hb0 m0
      go_wp2_with fail
      refine PhF.on hm0 ?_
      clear hm0
      show wpQuiet _ _ _ _ _ _
      simp only[gd]
      repeat (go_big_quiet_step (fail))
      refine wpQuiet_nil ?_
      intro x1 W1 mh
      simp only[pu]
      have HC1:=hide (HV0.out.trans mh (by simp))
      have HT8:=hide (mh.blk HU0.out (by simp))
      clear mh
      go_wp2_with fail
      refine(tnum_any _ tb _ p1 HT8.out).mono ?_
      rintro e0 v1 ⟨rfl,hb1,m1⟩
      have HU1:=hide hb1
      have HV1:=hide (HC1.out.trans m1 (fun x hx=> .inl hx))
      have hm1:=m1
      clear hb1 m1
      go_wp2_with fail
      refine PhF.on hm1 ?_
      clear hm1
      show wpQuiet _ _ _ _ _ _
      simp only[gd]
      refine wpQuiet_nil ?_
      intro x2 W2 mh
      simp only[pu]
      have HC2:=hide (HV1.out.trans mh (by simp))
      have HT9:=hide (mh.blk HU1.out (by simp))
      clear mh
      go_wp2_with fail
      refine(tnum_any _ tb _ p2 HT9.out).mono ?_
      rintro e0 v2 ⟨rfl,hb2,m2⟩
      have HU2:=hide hb2
      have HV2:=hide (HC2.out.trans m2 (fun x hx=> .inl hx))
      have hm2:=m2
      clear hb2 m2
      go_wp2_with fail
      refine PhF.on hm2 ?_
      clear hm2
      show wpQuiet _ _ _ _ _ _
      simp only[gd]
      repeat (go_big_quiet_step (fail))
      refine wpQuiet_nil ?_
      intro x3 W3 mh
      simp only[pu]
      have HC3:=hide (HV2.out.trans mh (by simp))
      have HT10:=hide (mh.blk HU2.out (by simp))
      clear mh
      go_wp2_with fail
      refine(tnum_any _ tb _ p3 HT10.out).mono ?_
      rintro e0 v3 ⟨rfl,hb3,m3⟩
      have HU3:=hide hb3
      have HV3:=hide (HC3.out.trans m3 (fun x hx=> .inl hx))
      have hm3:=m3
      clear hb3 m3
      go_wp2_with fail
      refine PhF.on hm3 ?_
      clear hm3
      show wpQuiet _ _ _ _ _ _
      simp only[gd]
      refine wpQuiet_nil ?_
      intro x4 W4 mh
      simp only[pu]
      have HC4:=hide (HV3.out.trans mh (by simp))
      have HT11:=hide (mh.blk HU3.out (by simp))
      clear mh
      go_wp2_with fail
      refine(tnum_any _ tb _ p4 HT11.out).mono ?_
      rintro e0 v4 ⟨rfl,hb4,m4⟩
      have HU4:=hide hb4
      have HV4:=hide (HC4.out.trans m4 (fun x hx=> .inl hx))
      have hm4:=m4
      clear hb4 m4
      go_wp2_with fail
      refine PhF.on hm4 ?_
      clear hm4
      show wpQuiet _ _ _ _ _ _
      simp only[gd]
      refine wpQuiet_nil ?_
      intro x5 W5 mh
      simp only[pu]
      have HC5:=hide (HV4.out.trans mh (by simp))
      have HT12:=hide (mh.blk HU4.out (by simp))
      clear mh
      go_wp2_with fail
      refine(twords_any _ tb _ p5 HT12.out).mono ?_
      rintro e0 v5 ⟨rfl,hb5,m5⟩
      have HU5:=hide hb5
      have HV5:=hide (HC5.out.trans m5 (fun x hx=> .inl hx))
      have hm5:=m5
      clear hb5 m5
      go_wp2_with fail
      refine PhF.on hm5 ?_
      clear hm5
      show wpQuiet _ _ _ _ _ _
      simp only[gd]
      refine wpQuiet_built rfl 38 _ rfl [(0,.int .i64 (gnum p0.v:Nat)),(2,.int .u64 (gnum p1.v:Nat)),(1,.int .i64 (gnum p2.v:Nat)),(3,.int .u64 (gnum p3.v:Nat)),(4,.int .u64 (gnum p4.v:Nat)),(5,.string p5.v.t)] rfl cs HBd.out ?_
      refine wpQuiet_nil ?_
      rintro _ W8 mh ⟨q,rfl,hqb,hqw⟩
      simp only[pu]
      have HC8:=hide (HV5.out.trans mh (by simp))
      have HU8:=hide (mh.blk HU5.out (by simp))
      have HQ8:=hide hqb
      have HQw:=hide hqw
      clear mh hqb hqw
      show wpQuiet _ _ _ _ _ _
      simp only[gd]
      refine wpQuiet_nil ?_
      have HTq:Hid (tb≠q):=hide (by have:=HQw.out;have:=HT6.out.lt;omega)
      go_wp2_with (refine wpList_store_whole rfl 38 _ _ rfl rfl q 38 (ecs none 0 0 ev0) cs HQ8.out rfl rfl (by rw[HCz.out];kernel_rfl) (by rw[HCz.out];rfl) HOne.out ?_;intro v9 m9 b9 s9;have HQ9:=hide b9;have HU9:=hide (m9.blk HU8.out (by simp;exact HTq.out));have HC9:=hide (HC8.out.trans m9 (fun x hx=> .inr (by simp at hx;rw[hx];exact HQw.out)));clear m9 b9 s9)
      refine Ph.on (fun h=>by cases h) ?_
      show wpQuiet _ _ _ _ _ _
      simp only[gd]
      refine wpQuiet_nil ?_
      obtain⟨bb,hbb⟩:∃bb,(false || bnum p0.v || bnum p1.v || bnum p2.v || bnum p3.v || bnum p4.v || bwords p5.v)=bb:=⟨_,rfl⟩
      have HUb:Hid (Blk v9 tb 82 #[.bool bb]):=hide (by rw[←hbb];exact HU9.out)
      have HBb:=hide hbb
      have HM9:=hide (HM6.out.trans HC9.out (fun x hx=> .inr (by simp at hx;rw[hx];have:=HTw.out;omega)))
      have HR9:=hide (HC9.out.blk HR6.out (by have:=HTw.out;simp;omega))
      have HX9:=hide (HC9.out.blk HX6.out (by have:=HTw.out;simp;omega))
      clear hbb HU9 HU8 HC8 HQ8
      by_cases h6':n=6
      ·have htl0:tl= []:=List.eq_nil_of_length_eq_zero (by omega)
       subst htl0
       have HEq:Hid (eof vv=if(bb || !emay ⟨gnum p0.v,gnum p2.v,gnum p1.v,gnum p3.v,gnum p4.v,p5.v.t,fr0⟩)=true then none else some ⟨gnum p0.v,gnum p2.v,gnum p1.v,gnum p3.v,gnum p4.v,p5.v.t,fr0⟩):=hide (by
        unfold eof
        rw[HWe.out,←HBb.out,←HVv.out]
        have e1:gev (.mk 6 i t (JN.vs [p0,p1,p2,p3,p4,p5]) ks)=⟨gnum p0.v,gnum p2.v,gnum p1.v,gnum p3.v,gnum p4.v,p5.v.t,fr0⟩:=by
         unfold gev goesOn jat JV.l
         simp[JN.vs]
        have e2:bev (.mk 6 i t (JN.vs [p0,p1,p2,p3,p4,p5]) ks)=(false || bnum p0.v || bnum p1.v || bnum p2.v || bnum p3.v || bnum p4.v || bwords p5.v):=by
         unfold bev goesOn jat JV.l
         simp[JN.vs]
        rw[e1,e2]
        rfl)
       have HRg:Hid (Rngs v9 none 0 fr0.list):=hide (Rngs.nil v9)
       have HOz:Hid (ROwn v9 w.heap.size none 0 fr0.list):=hide (ROwn.nil _ _)
       go_upto_region 10 with fail
       have HCs2:Hid (ecs none ((⟨gnum p0.v,gnum p2.v,gnum p1.v,gnum p3.v,gnum p4.v,p5.v.t,fr0⟩:Ev).f.list.length) 0 ⟨gnum p0.v,gnum p2.v,gnum p1.v,gnum p3.v,gnum p4.v,p5.v.t,fr0⟩=cs):=hide HCs.out
       have z0:v9.cell? ⟨tb,0,none⟩=some (.bool bb):=HUb.out.cell 0
       have HXq:=hide HQ9.out.range
       obtain⟨mv,hmv⟩:∃mv,emay ⟨gnum p0.v,gnum p2.v,gnum p1.v,gnum p3.v,gnum p4.v,p5.v.t,fr0⟩=mv:=⟨_,rfl⟩
       have hmy:=fun w' (m:Mod [] v9 w')=>emay_any w' none (⟨gnum p0.v,gnum p2.v,gnum p1.v,gnum p3.v,gnum p4.v,p5.v.t,fr0⟩:Ev).f.list.length 0 ⟨gnum p0.v,gnum p2.v,gnum p1.v,gnum p3.v,gnum p4.v,p5.v.t,fr0⟩ (HRg.out.new m) mv hmv
       unfold evval at hmy
       rw[HCs2.out]at hmy
       have HMy:=hide hmy
       have HMv:=hide hmv
       clear hmy hmv
       cases bb with
       | true=>
        have HNo:Hid (eof vv=none):=hide (by rw[HEq.out];rfl)
        go_upto_region 11 with fail
        go_wp2_with (refine wpList_store_whole rfl 38 _ _ rfl rfl (w.heap.size+1) 38 (ecs none 0 0 ev0) (ecs none 0 0 ev0) HR9.out rfl rfl (by kernel_rfl) rfl (by kernel_rfl) ?_;intro w9 m9 b9 s9;have HM9:=hide (HM9.out.trans m9 (by intro x hx;right;simp at hx;omega));have HB9:=hide b9;clear m9 b9 s9)
        refine bodyPost_ret (results_cell_tmp_row rfl _ _ (w.heap.size+1) 38 (ecs none 0 0 ev0) _ rfl HB9.out Tryz.underlying38 rfl (by kernel_rfl)) rfl ?_
        exact OfPost.no HNo.out HM9.out
       | false=>
        go_upto_region 11 with(refine wpList_load_want (by kernel_rfl) 38 _ rfl q 0 rfl cs.toList _ HXq.out rfl rfl (by rw[Array.length_toList,HCz.out];kernel_rfl) ?_)
        refine(HMy.out v9 (Mod.refl [] v9)).mono ?_
        rintro e0 wy ⟨rfl,my⟩
        have HMe:=hide (HM9.out.trans my (by simp))
        have HRe:=hide (my.blk HR9.out (by simp))
        have HXe:=hide (my.blk HQ9.out (by simp)).range
        have HOe:=hide (HOz.out.new2 my)
        clear my z0 HXq
        cases mv with
        | false=>
         have HNo:Hid (eof vv=none):=hide (by rw[HEq.out,HMv.out];rfl)
         go_wp2_with (refine wpList_store_whole rfl 38 _ _ rfl rfl (w.heap.size+1) 38 (ecs none 0 0 ev0) (ecs none 0 0 ev0) HRe.out rfl rfl (by kernel_rfl) rfl (by kernel_rfl) ?_;intro w9 m9 b9 s9;have HM9:=hide (HMe.out.trans m9 (by intro x hx;right;simp at hx;omega));have HB9:=hide b9;clear m9 b9 s9)
         refine bodyPost_ret (results_cell_tmp_row rfl _ _ (w.heap.size+1) 38 (ecs none 0 0 ev0) _ rfl HB9.out Tryz.underlying38 rfl (by kernel_rfl)) rfl ?_
         exact OfPost.no HNo.out HM9.out
        | true=>
         have HYes:Hid (eof vv=some ⟨gnum p0.v,gnum p2.v,gnum p1.v,gnum p3.v,gnum p4.v,p5.v.t,fr0⟩):=hide (by rw[HEq.out,HMv.out];rfl)
         go_wp2_with (first | (refine wpList_load_mid rfl 38 _ rfl q 0 rfl cs.toList _ HXe.out rfl rfl (by rw[Array.length_toList,HCz.out];kernel_rfl) ?_) | (refine wpList_store_whole rfl 38 _ _ rfl rfl (w.heap.size+1) 38 (ecs none 0 0 ev0) cs HRe.out rfl rfl (by rw[HCz.out];kernel_rfl) (by rw[HCz.out];rfl) HOne.out ?_;intro w9 m9 b9 s9;have HM9:=hide (HMe.out.trans m9 (by intro x hx;right;simp at hx;omega));have HB9:=hide b9;have HO9:=hide (HOe.out.mod m9 (by intro u v h;have:=HOe.out.ne HRe.out (by decide) u v h;simpa using this));clear m9 b9 s9))
         refine bodyPost_ret (results_cell_tmp_row rfl _ _ (w.heap.size+1) 38 cs _ rfl HB9.out Tryz.underlying38 rfl (by rw[HCz.out];kernel_rfl)) rfl ?_
         rw[←HCs2.out]
         refine⟨none,0,⟨gnum p0.v,gnum p2.v,gnum p1.v,gnum p3.v,gnum p4.v,p5.v.t,fr0⟩,by rw[HYes.out];rfl,by rw[HYes.out],HO9.out,?_,HM9.out⟩
         exact ev_short HMv.out
      ·skip
       have hn7:n=7:=by omega
       obtain⟨p6,htl1⟩:∃p6,tl= [p6]:=by
        match tl,htl with
        | [p6],_=>exact⟨p6,rfl⟩
        | [],h=>simp at h;omega
        | _ ::_ ::_,h=>simp at h;omega
       subst htl1 hn7
       obtain⟨g6,o6,hA6,_,hr6⟩:=HRw.out.range (j:=6) (x:=p6) rfl
       cases hA6
       have hW9:=HWv.out v9 HC9.out
       have HRp:Hid (v9.rangeAt g (o+6 * 5) p6.cells.toList):=hide (fun j u hu=>(hW9.cell (p:=⟨g,o+6 * 5+j,none⟩) hg (by simp)).trans (hr6 j u hu))
       have hjm:jmay 8 (JV.mk 6 i t (JN.vs [p0,p1,p2,p3,p4,p5,p6]) ks)=true:=by rw[HVv.out];exact HMj.out
       have h6m:jmay 7 p6.v=true:=jmays_mem (jmay_parts hjm).2.2.2.2.2.2 (by simp[JN.vs])
       obtain⟨k6,hk6⟩:∃k6,ks[6]? =some k6:=⟨_,List.getElem?_eq_getElem (by rw[HN.out];omega)⟩
       obtain⟨gB,oB,hBB,hgB,hcB⟩:=HKs.out.at_ hk6
       have hfr:=tframe_any W v9 tb bb p6 (HIs.out.at_ (j:=6) rfl) hW9 HTb.out HUb.out (by have h:=HSv.out hjm;simpa [jat,JV.l,JN.vs] using h) (jmay_keys h6m)
       have HFr:=hide hfr
       obtain⟨gf,hgf⟩:∃gf:Fr,(if wframe p6.v=true then fr0 else gframe p6.v)=gf:=⟨_,rfl⟩
       have hgl:gf.list.length≤100000000:=by
        rw[←hgf]
        split
        ·simp[fr0]
        ·have h:=HSv.out hjm
         have h2:=granges_le (jat p6.v 7)
         have h3:(jat p6.v 7).l.length≤100000000:=by simpa [jat,JV.l,JN.vs] using h
         show(granges (jat p6.v 7)).length≤_
         omega
       have HGf:=hide hgf
       have HGl:=hide hgl
       have HK6:=hide hk6
       have HCB:Hid (v9.cell? ⟨gB,oB+6,none⟩=some (.string k6)):=hide ((hW9.cell (p:=⟨gB,oB+6,none⟩) hgB (by simp)).trans hcB)
       have HgB:Hid (gB < W.heap.size):=hide hgB
       subst hBB
       obtain⟨kq,hkq⟩:∃kq,decide (k6=fkey)=kq:=⟨_,rfl⟩
       have hq6:(k6.toList== [102,114,97,109,101])=kq:=by
        have h:=toList_dec k6 fkey
        rw[Lib.toList_data fkey,hkq]at h
        exact h
       have HKq:=hide hkq
       clear hr6 hjm h6m hk6 hfr hgf hgl hcB hgB hkq hW9
       go_upto_region 8 with fail
       go_wp2_with (refine wpList_load_mid rfl 43 _ rfl g (o+6 * 5) rfl p6.cells.toList _ HRp.out rfl rfl (by rw[Array.length_toList,p6.cells_size];kernel_rfl) ?_)
       refine HFr.out.mono ?_
       rintro e0 v10 ⟨A8,c8,rfl,o10,u10,m10⟩
       rw[HGf.out]at o10 ⊢
       obtain⟨fc,hfc⟩:∃fc,fcs A8 gf.list.length c8 gf=fc:=⟨_,rfl⟩
       have HFz:Hid (fc.size=8):=hide (by rw[←hfc];rfl)
       have HF1:Hid (fc.all (·.oneCell')=true):=hide (by rw[←hfc];simp[fcs,Value.oneCell'])
       obtain⟨cs2,hcs2⟩:∃cs2,ecs A8 gf.list.length c8 ⟨gnum p0.v,gnum p2.v,gnum p1.v,gnum p3.v,gnum p4.v,p5.v.t,gf⟩=cs2:=⟨_,rfl⟩
       have HPt:Hid (setsAt cs 6 fc.toList=cs2):=hide (by rw[←HCs.out,←hfc,←hcs2];exact ecs_put _ _ _ _ _ _ _ _ _ _)
       have HFt:Hid (6+fc.size≤cs.size):=hide (by rw[HFz.out,HCz.out];omega)
       have HQ10:=hide (m10.blk HQ9.out (by simp;exact Ne.symm HTq.out))
       have HR10:=hide (m10.blk HR9.out (by have:=HTw.out;simp;omega))
       have HX10:=hide (m10.blk HX9.out (by have:=HTw.out;simp;omega))
       have HM10:=hide (HM9.out.trans m10 (fun x hx=> .inr (by simp at hx;rw[hx];have:=HTw.out;omega)))
       have HO10:=hide (o10.base HM9.out.size)
       have HU10:=hide u10
       have HCB10:=hide ((m10.cell (p:=⟨gB,oB+6,none⟩) (Nat.lt_of_lt_of_le HgB.out (HWv.out v9 HC9.out).size) (by have:=HgB.out;have:=HTb.out;simp;omega)).trans HCB.out)
       have HZ10:=hide (Nat.le_trans (HWv.out v9 HC9.out).size m10.size)
       rw[hfc]
       clear hfc o10 u10 m10
       go_upto_region 9 with(refine wpList_store_part rfl 36 _ _ rfl rfl q 6 38 cs cs2 fc HQ10.out rfl rfl (by rw[HFz.out];kernel_rfl) HFt.out HPt.out HF1.out ?_;intro v11 m11 b11 s11;have HQ11:=hide b11;have HR11:=hide (m11.blk HR10.out (by have:=HQw.out;have:=HR6.out.lt;simp;omega));have HX11:=hide (m11.blk HX10.out (by have:=HQw.out;have:=HX6.out.lt;simp;omega));have HM11:=hide (HM10.out.trans m11 (fun x hx=> .inr (by simp at hx;rw[hx];have:=HQw.out;have:=HM6.out.size;omega)));have HO11:=hide (HO10.out.mod m11 (by intro u v h;have:=HO10.out.ne HQ10.out (by decide) u v h;simpa using this));have HU11:=hide (m11.blk HU10.out (by simp;exact HTq.out));have HCB11:=hide ((m11.cell (p:=⟨gB,oB+6,none⟩) (Nat.lt_of_lt_of_le HgB.out HZ10.out) (by have:=HQw.out;have:=HgB.out;have:=HW6.out.size;simp;omega)).trans HCB10.out);clear m11 b11 s11)
       obtain⟨bc,hbc⟩:∃bc,(bb || bframe p6.v)=bc:=⟨_,rfl⟩
       have HBc:=hide hbc
       rw[hbc]at HU11
       clear hbc
       have z0:v11.cell? ⟨tb,0,none⟩=some (.bool bc):=HU11.out.cell 0
       have zf:v11.frozen? ⟨tb,0,none⟩=false:=HU11.out.frozen 0
       have zl:=HU11.out.lt
       have z4:v11.cell? ⟨w.heap.size,4,none⟩=some (.slice (some ⟨gB,oB,none⟩) 7 d):=(HX11.out.cell 4).trans (by rw[←HXc.out];show some (Value.slice (some ⟨gB,oB,none⟩) ks.length d)=_;rw[HN.out])
       have z6:v11.cell? ⟨gB,oB+6,none⟩=some (.string k6):=HCB11.out
       go_cut [] (fun wx=>Hid (Blk wx tb 82 #[.bool (bc || !kq)])∧Hid (Mod [tb] v11 wx))
       case first=>
        have fin:Hid (Mod [tb] v11 (v11.setCell ⟨tb,0,none⟩ (.bool (bc || !kq)))∧Blk (v11.setCell ⟨tb,0,none⟩ (.bool (bc || !kq))) tb 82 #[.bool (bc || !kq)]):=hide ⟨(Mod.refl [tb] v11).setCell (p:=⟨tb,0,none⟩) (.inl (by simp)) _,HU11.out.set_ 0 _⟩
        cases bc with
        | true=>
         go_wp2_with fail
         go_meet
         exact⟨hide fin.out.2,hide fin.out.1⟩
        | false=>
         go_wp2_with fail
         go_meet
         exact⟨hide fin.out.2,hide fin.out.1⟩
       case rest=>
        obtain⟨hub,hmw⟩:=hcut
        clear z0 zf zl z4 z6
        obtain⟨b9,hb9⟩:∃b9,(bc || !kq)=b9:=⟨_,rfl⟩
        rw[hb9]at hub
        have HEq:Hid (eof vv=if(b9 || !emay ⟨gnum p0.v,gnum p2.v,gnum p1.v,gnum p3.v,gnum p4.v,p5.v.t,gf⟩)=true then none else some ⟨gnum p0.v,gnum p2.v,gnum p1.v,gnum p3.v,gnum p4.v,p5.v.t,gf⟩):=hide (by
         unfold eof
         rw[HWe.out,←hb9,←HBc.out,←HBb.out,←HVv.out,←HKq.out,←HGf.out]
         have hkd:ks.getD 6 ⟨#[]⟩=k6:=by rw[List.getD_eq_getElem?_getD,HK6.out];rfl
         have e1:gev (.mk 6 i t (JN.vs [p0,p1,p2,p3,p4,p5,p6]) ks)=⟨gnum p0.v,gnum p2.v,gnum p1.v,gnum p3.v,gnum p4.v,p5.v.t,(if wframe p6.v=true then fr0 else gframe p6.v)⟩:=by
          unfold gev goesOn jat JV.l
          simp[JN.vs]
         have e2:bev (.mk 6 i t (JN.vs [p0,p1,p2,p3,p4,p5,p6]) ks)=((false || bnum p0.v || bnum p1.v || bnum p2.v || bnum p3.v || bnum p4.v || bwords p5.v || bframe p6.v) || !decide (k6=fkey)):=by
          unfold bev goesOn jat JV.l JV.ks
          rw[hkd]
          simp[JN.vs,Bool.or_assoc]
         rw[e1,e2]
         rfl)
        have HCs3:Hid (ecs A8 ((⟨gnum p0.v,gnum p2.v,gnum p1.v,gnum p3.v,gnum p4.v,p5.v.t,gf⟩:Ev).f.list.length) c8 ⟨gnum p0.v,gnum p2.v,gnum p1.v,gnum p3.v,gnum p4.v,p5.v.t,gf⟩=cs2):=hide hcs2
        have HQ12:=hide (hmw.out.blk HQ11.out (by simp;exact Ne.symm HTq.out))
        have HR12:=hide (hmw.out.blk HR11.out (by have:=HTw.out;simp;omega))
        have HM12b:=hide (HM11.out.trans hmw.out (fun x hx=> .inr (by simp at hx;rw[hx];have:=HTw.out;omega)))
        have HO12:Hid (ROwn wc w.heap.size A8 c8 ((⟨gnum p0.v,gnum p2.v,gnum p1.v,gnum p3.v,gnum p4.v,p5.v.t,gf⟩:Ev).f.list)):=hide (HO11.out.mod hmw.out (by intro u v h;have:=HO11.out.ne HU11.out (by decide) u v h;simpa using this))
        have HRg:Hid (Rngs wc A8 ((⟨gnum p0.v,gnum p2.v,gnum p1.v,gnum p3.v,gnum p4.v,p5.v.t,gf⟩:Ev).f.list.length) ((⟨gnum p0.v,gnum p2.v,gnum p1.v,gnum p3.v,gnum p4.v,p5.v.t,gf⟩:Ev).f.list)):=hide (HO12.out.rngs (by show gf.list.length≤_;have:=HGl.out;omega))
        clear HCs HCz HOne
        have HCz:Hid (cs2.size=14):=hide (by rw[←hcs2];rfl)
        have HOne:Hid (cs2.all (·.oneCell')=true):=hide (by rw[←hcs2];exact ecs_one _ _ _ _)
        obtain⟨cs3,hcs3⟩:∃cs3,cs2=cs3:=⟨_,rfl⟩
        rw[hcs3]at HCs3 HCz HOne HQ12
        clear hcs2 hcs3 hb9
        go_upto_region 10 with fail
        have z0:wc.cell? ⟨tb,0,none⟩=some (.bool b9):=hub.out.cell 0
        have HXq:=hide HQ12.out.range
        obtain⟨mv,hmv⟩:∃mv,emay ⟨gnum p0.v,gnum p2.v,gnum p1.v,gnum p3.v,gnum p4.v,p5.v.t,gf⟩=mv:=⟨_,rfl⟩
        have hmy:=fun w' (m:Mod [] wc w')=>emay_any w' A8 (⟨gnum p0.v,gnum p2.v,gnum p1.v,gnum p3.v,gnum p4.v,p5.v.t,gf⟩:Ev).f.list.length c8 ⟨gnum p0.v,gnum p2.v,gnum p1.v,gnum p3.v,gnum p4.v,p5.v.t,gf⟩ (HRg.out.new m) mv hmv
        unfold evval at hmy
        rw[HCs3.out]at hmy
        have HMy:=hide hmy
        have HMv:=hide hmv
        clear hmy hmv
        cases b9 with
        | true=>
         have HNo:Hid (eof vv=none):=hide (by rw[HEq.out];rfl)
         go_upto_region 11 with fail
         go_wp2_with (refine wpList_store_whole rfl 38 _ _ rfl rfl (w.heap.size+1) 38 (ecs none 0 0 ev0) (ecs none 0 0 ev0) HR12.out rfl rfl (by kernel_rfl) rfl (by kernel_rfl) ?_;intro w9 m9 b9 s9;have HM9:=hide (HM12b.out.trans m9 (by intro x hx;right;simp at hx;omega));have HB9:=hide b9;clear m9 b9 s9)
         refine bodyPost_ret (results_cell_tmp_row rfl _ _ (w.heap.size+1) 38 (ecs none 0 0 ev0) _ rfl HB9.out Tryz.underlying38 rfl (by kernel_rfl)) rfl ?_
         exact OfPost.no HNo.out HM9.out
        | false=>
         go_upto_region 11 with(refine wpList_load_want (by kernel_rfl) 38 _ rfl q 0 rfl cs3.toList _ HXq.out rfl rfl (by rw[Array.length_toList,HCz.out];kernel_rfl) ?_)
         refine(HMy.out wc (Mod.refl [] wc)).mono ?_
         rintro e0 wy ⟨rfl,my⟩
         have HMe:=hide (HM12b.out.trans my (by simp))
         have HRe:=hide (my.blk HR12.out (by simp))
         have HXe:=hide (my.blk HQ12.out (by simp)).range
         have HOe:=hide (HO12.out.new2 my)
         clear my z0 HXq
         cases mv with
         | false=>
          have HNo:Hid (eof vv=none):=hide (by rw[HEq.out,HMv.out];rfl)
          go_wp2_with (refine wpList_store_whole rfl 38 _ _ rfl rfl (w.heap.size+1) 38 (ecs none 0 0 ev0) (ecs none 0 0 ev0) HRe.out rfl rfl (by kernel_rfl) rfl (by kernel_rfl) ?_;intro w9 m9 b9 s9;have HM9:=hide (HMe.out.trans m9 (by intro x hx;right;simp at hx;omega));have HB9:=hide b9;clear m9 b9 s9)
          refine bodyPost_ret (results_cell_tmp_row rfl _ _ (w.heap.size+1) 38 (ecs none 0 0 ev0) _ rfl HB9.out Tryz.underlying38 rfl (by kernel_rfl)) rfl ?_
          exact OfPost.no HNo.out HM9.out
         | true=>
          have HYes:Hid (eof vv=some ⟨gnum p0.v,gnum p2.v,gnum p1.v,gnum p3.v,gnum p4.v,p5.v.t,gf⟩):=hide (by rw[HEq.out,HMv.out];rfl)
          go_wp2_with (first | (refine wpList_load_mid rfl 38 _ rfl q 0 rfl cs3.toList _ HXe.out rfl rfl (by rw[Array.length_toList,HCz.out];kernel_rfl) ?_) | (refine wpList_store_whole rfl 38 _ _ rfl rfl (w.heap.size+1) 38 (ecs none 0 0 ev0) cs3 HRe.out rfl rfl (by rw[HCz.out];kernel_rfl) (by rw[HCz.out];rfl) HOne.out ?_;intro w9 m9 b9 s9;have HM9:=hide (HMe.out.trans m9 (by intro x hx;right;simp at hx;omega));have HB9:=hide b9;have HO9:=hide (HOe.out.mod m9 (by intro u v h;have:=HOe.out.ne HRe.out (by decide) u v h;simpa using this));clear m9 b9 s9))
          refine bodyPost_ret (results_cell_tmp_row rfl _ _ (w.heap.size+1) 38 cs3 _ rfl HB9.out Tryz.underlying38 rfl (by rw[HCz.out];kernel_rfl)) rfl ?_
          rw[←HCs3.out]
          refine⟨A8,c8,⟨gnum p0.v,gnum p2.v,gnum p1.v,gnum p3.v,gnum p4.v,p5.v.t,gf⟩,by rw[HYes.out];rfl,by rw[HYes.out],HO9.out,?_,HM9.out⟩
          exact ev_short HMv.out
 ·have e6:(k !=6)=true:=by simpa using hk
  have HNo:Hid (eof vv=none):=hide (by unfold eof wev;rw[←HVv.out];unfold JV.k;simp[hk])
  have y0:w2.cell? ⟨w.heap.size,0,none⟩=some (.int .i64 k):=(HX2.out.cell 0).trans (by rw[←HXc.out];rfl)
  clear hk
  go_quiet (fail)
  obtain⟨w3,hw3⟩:∃w3,w2.drewN nq=w3:=⟨_,rfl⟩
  have hc3:Mod [] w2 w3:=by rw[←hw3];exact(Mod.refl [] w2).drewN nq
  rw[hw3]
  clear hw3 y0
  have HMb:=hide (HM2.out.trans hc3 (by simp))
  have HRb:=hide ((hc3).blk HR2.out (by simp))
  go_wp2_with (refine wpList_store_whole rfl 38 _ _ rfl rfl (w.heap.size+1) 38 (ecs none 0 0 ev0) (ecs none 0 0 ev0) HRb.out rfl rfl (by kernel_rfl) rfl (by kernel_rfl) ?_;intro w9 m9 b9 s9;have HM9:=hide (HMb.out.trans m9 (by intro x hx;right;simp at hx;omega));have HB9:=hide b9;clear m9 b9 s9)
  refine bodyPost_ret (results_cell_tmp_row rfl _ _ (w.heap.size+1) 38 (ecs none 0 0 ev0) _ rfl HB9.out Tryz.underlying38 rfl (by kernel_rfl)) rfl ?_
  exact OfPost.no HNo.out HM9.out
end Go.Proofs.YtlfjhgamlkbofaaGreatDoor
