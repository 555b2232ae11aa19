/-
  Contracts of the functions that the laws of this seat reach, and plain laws, part 11 of 13; no condition.
-/
import Derived.Test.YtlfjhgamlkbofaaGreatDoorPE3
import Derived.Test.YtlfjhgamlkbofaaGreatDoorPC
import Derived.Test.YtlfjhgamlkbofaaGreatDoorPJ3
import Derived.Test.YtlfjhgamlkbofaaGreatDoorPE1
set_option linter.unusedVariables false
set_option linter.unusedSimpArgs false
set_option linter.unnecessarySimpa false
set_option maxRecDepth 100000
set_option maxHeartbeats 16000000
namespace Go.Proofs.YtlfjhgamlkbofaaGreatDoor
open Go.RowKit Js
theorem JIn.of_rows {w:World} {k i:Int} {t:ByteArray} {gk gl c d:Nat} {l:List JN} {ks:List ByteArray} (hk:Blk w gk 9 (ks.map Value.string).toArray) (hl:Blk w gl 43 (jlcells l).toArray) (h1:ks.length≤1000) (h3:ks.length≤d) (h2:l.length≤1000) (hin:∀x∈l,JIn w x):
  JIn w (JN.mk k i t (some ⟨gl,0,none⟩) c l (some ⟨gk,0,none⟩) d ks):=by
 rw[JIn]
 refine⟨⟨by unfold jmax;omega,by unfold jmax;omega,h3⟩,.inr ⟨gk,0,rfl,hk.lt,fun j x hx=> ?_⟩,.inr ⟨gl,0,rfl,hl.lt,fun j x hx i u hu=> ?_⟩,JIns.of hin⟩
 ·rw[Nat.zero_add,hk.cell,List.getElem?_toArray,List.getElem?_map,hx];rfl
 ·rw[Nat.zero_add,hl.cell,List.getElem?_toArray]
  exact lcells_at _ j x hx i u hu
theorem strZero:(Tryz.prog.info? 9).map (fun i=>(i.zero,i.size))=some (some (.string ⟨#[]⟩),1):=by kernel_rfl
theorem ownk_laid {w:World} {base g:Nat} {ks:List ByteArray} (h:Blk w g 9 (ks.map Value.string).toArray) (hb:base≤g) (hn:ks.length≤1000):w.ownsRow base 9 1 (.slice (some ⟨g,0,none⟩) ks.length ks.length) ks.length (ks.map Value.string):=
 ⟨by simp,.inr ⟨g,ks.length,_,rfl,hb,h,Nat.le_refl _,by simp only[maxLen];omega,by simp,by rw[List.take_of_length_le (by simp)]⟩⟩
theorem KeysAt.own {w:World} {base d:Nat} {B:Option Addr} {ks:List ByteArray} (h:w.ownsRow base 9 1 (.slice B ks.length d) ks.length (ks.map Value.string)):KeysAt w B ks:=by
 rcases h.2 with⟨h0,h0'⟩ | ⟨g,cap,cur,hv,hb,hh,q1,q2,q3,q4⟩
 ·exact .inl (List.eq_nil_of_length_eq_zero h0')
 ·cases hv
  refine .inr ⟨g,0,rfl,Blk.lt hh,fun j x hx=> ?_⟩
  have:=World.ownsRow.cells h (g:=g) rfl j (.string x) (by rw[List.getElem?_map,hx];rfl)
  rw[Addr.add_lit]at this
  exact this
theorem cls_part {F:List Nat} {w0 w:World} {g off:Nat} {t:TypeId} {cs:Array Value} {ds:List Value} (h:Blk w g t cs) (h0:Mod F w0 w) (hl:g < w0.heap.size) (hn:g∉F) (hs:∀j u,ds[j]? =some u→cs[off+j]? =some u):∀v,Cls (Mod F w0) v→v.rangeAt g off ds:=by
 rintro _ ⟨i,rfl⟩
 have hb:Blk i.w g t cs:=(i.ok.block g hl hn).trans ((h0.block g hl hn).symm.trans h)
 intro j u hu
 rw[hb.cell]
 exact hs j u hu
theorem j6_v (A B:Option Addr) (c d k t s n m:Nat) (x:ByteArray):(JN.mk 6 0 ⟨#[]⟩ A c [jnN k,jnN t,jnN s,jnN n,jnN m,jtN x] B d ekeys).v=.mk 6 0 ⟨#[]⟩ [jn k,jn t,jn s,jn n,jn m,jt x] ekeys:=by
 rw[JN.v]
 simp only[JN.vs,jnN_v,jtN_v]
def ValPost (e:Ev) (w:World) (r:Ending) (w':World):Prop:=∃x:JN,r=.returned (.tuple #[.agg x.cells,.int .i64 (if emay e then 0 else 2)])∧x.v=(if emay e then evalue e else jv0)∧JIn w' x∧Mod [] w w'
theorem evalue_any (w:World) (A:Option Addr) (c:Nat) (e:Ev) (hr:Rngs w A e.f.list.length e.f.list):Calls Tryz.prog 27 #[evval A e.f.list.length c e] w (ValPost e w):=by
 obtain⟨ec,hec⟩:∃ec,ecs A e.f.list.length c e=ec:=⟨_,rfl⟩
 have HEc:=hide hec
 have HEz:Hid (ec.size=14):=hide (by rw[←hec];rfl)
 obtain⟨w1,hw1⟩:∃w1,(w.alloc (.cells ec 38)).alloc (.cells zcs 43)=w1:=⟨_,rfl⟩
 have HM1:Hid (Mod [] w w1):=hide (by rw[←hw1];exact((Mod.refl [] w).alloc _).alloc _)
 have HB1:Hid (Blk w1 w.heap.size 38 ec):=hide (by rw[←hw1];exact(Blk.new w 38 ec).alloc _)
 have HR1:Hid (Blk w1 (w.heap.size+1) 43 zcs):=hide (by
  rw[←hw1]
  have:=Blk.new (w.alloc (.cells ec 38)) 43 zcs
  rw[World.size_alloc]at this
  exact this)
 have HRgw:=hide (fun w' (m:Mod [] w w')=>hr.new m)
 have HRg:=hide (fun w' (m:Mod [] w1 w')=>(hr.new HM1.out).new m)
 obtain⟨v,hv⟩:∃v,emay e=v:=⟨_,rfl⟩
 have hmy:=fun w' (m:Mod [] w1 w')=>emay_any w' A e.f.list.length c e (HRg.out w' m) v hv
 have HV:=hide hv
 unfold evval at hmy ⊢
 rw[hec]at hmy ⊢
 have HMy:=hide hmy
 have XL1:=hide HB1.out.range
 clear hr hv hmy hec
 go_enter Tryz.func27,Tryz.ntmps27
 go_upto_region 1 with fail
 rw[show(w.alloc (.cells ec 38)).alloc (.cells #[.int .i64 0,.int .i64 0,.string ⟨#[]⟩,.slice none 0 0,.slice none 0 0] 43)=w1 from hw1]
 clear hw1
 go_wp2_with (refine wpList_load_mid rfl 38 _ rfl w.heap.size 0 rfl ec.toList _ XL1.out rfl rfl (by rw[Array.length_toList,HEz.out];kernel_rfl) ?_)
 refine(HMy.out w1 (Mod.refl [] w1)).mono ?_
 rintro e0 w2 ⟨rfl,m2⟩
 have HM2:=hide (HM1.out.trans m2 (by simp))
 have HB2:=hide (m2.blk HB1.out (by simp))
 have HR2:=hide (m2.blk HR1.out (by simp))
 have HRg2:=hide (fun w' (m:Mod [] w2 w')=>HRg.out w' (m2.trans m (by simp)))
 clear m2 HMy HRg HM1 HB1 HR1 XL1
 cases v with
 | false=>
  go_wp2_with (refine wpList_store_whole rfl 43 _ _ rfl rfl (w.heap.size+1) 43 zcs zcs HR2.out rfl rfl (by kernel_rfl) rfl (by kernel_rfl) ?_;intro w9 m9 b9 s9;have HM9:=hide (HM2.out.trans m9 (by intro x hx;right;simp at hx;omega));have HB9:=hide b9;clear m9 b9 s9)
  refine bodyPost_ret (results_cell_tmp_row rfl _ _ (w.heap.size+1) 43 zcs _ rfl HB9.out Tryz.underlying43 rfl (by kernel_rfl)) rfl ?_
  refine⟨JN.mk 0 0 ⟨#[]⟩ none 0 [] none 0 [],?_,?_,JIn.plain _ _ _ _,HM9.out⟩
  ·rw[HV.out];rfl
  ·rw[HV.out];rfl
 | true=>
  have HO:=hide (emay_iff.1 HV.out)
  obtain⟨kn,hkn⟩:∃kn,e.kind.toNat=kn:=⟨_,rfl⟩
  obtain⟨sn,hsn⟩:∃sn,e.space.toNat=sn:=⟨_,rfl⟩
  have HKn:=hide hkn
  have HSn:=hide hsn
  have HKe:=hide hkn.symm
  have HSe:=hide hsn.symm
  clear hkn hsn
  go_upto_region 3 with fail
  have y0:∀i:Fam (Mod [] w2),i.w.cell? ⟨w.heap.size,0,none⟩=some (.int .i64 e.kind):=fam_cell0 ((HB2.out.cell 0).trans (by rw[←HEc.out];rfl)) (by simp)
  have y2:∀i:Fam (Mod [] w2),i.w.cell? ⟨w.heap.size,2,none⟩=some (.int .u64 (e.time:Nat)):=fam_cell0 ((HB2.out.cell 2).trans (by rw[←HEc.out];rfl)) (by simp)
  have y1:∀i:Fam (Mod [] w2),i.w.cell? ⟨w.heap.size,1,none⟩=some (.int .i64 e.space):=fam_cell0 ((HB2.out.cell 1).trans (by rw[←HEc.out];rfl)) (by simp)
  have y3:∀i:Fam (Mod [] w2),i.w.cell? ⟨w.heap.size,3,none⟩=some (.int .u64 (e.num:Nat)):=fam_cell0 ((HB2.out.cell 3).trans (by rw[←HEc.out];rfl)) (by simp)
  have y4:∀i:Fam (Mod [] w2),i.w.cell? ⟨w.heap.size,4,none⟩=some (.int .u64 (e.many:Nat)):=fam_cell0 ((HB2.out.cell 4).trans (by rw[←HEc.out];rfl)) (by simp)
  have y5:∀i:Fam (Mod [] w2),i.w.cell? ⟨w.heap.size,5,none⟩=some (.string e.text):=fam_cell0 ((HB2.out.cell 5).trans (by rw[←HEc.out];rfl)) (by simp)
  have q1:IntKind.u64.wrap e.kind=((kn:Nat):Int):=by have:=HO.out.k1;have:=HO.out.k2;have:=HKn.out;rw[IntWalk.u64_in _ (by omega)];omega
  have q2:IntKind.u64.wrap e.space=((sn:Nat):Int):=by have:=HO.out.s1;have:=HO.out.s2;have:=HSn.out;rw[IntWalk.u64_in _ (by omega)];omega
  refine wp_region_float [] [24] 23 4 43 zcs [([1,2,3,5,6,8,9,10,12,13,15,16,18,19],0),([],4),([],7),([],11),([],14),([],17),([],20),([],21)] [22] [([],24)] [] (by kernel_rfl) (by kernel_rfl) (fun _ _ _ _ _ h=>h) (by simp) (by simp) rfl rfl (fun _ _=>by kernel_rfl) (by simp) ?_
  show wpQuiet _ _ _ _ _ _
  simp only[gd]
  repeat (go_big_quiet_step (fail))
  refine wpQuiet_nil ?_
  intro x0 W0 mh
  simp only[pu]
  clear y0 y1 y2 y3 y4 y5 q1 q2
  have HA0:=hide ((Mod.refl [] w2).drew.trans mh (by simp))
  clear mh
  go_wp2_with fail
  refine(ekeys_any _).mono ?_
  rintro e0 v0 ⟨rfl,hk,m0⟩
  obtain⟨gk,hgk⟩:∃gk,W0.heap.size=gk:=⟨_,rfl⟩
  rw[hgk]at hk ⊢
  have HGk:Hid (w2.heap.size≤gk):=hide (by rw[←hgk];exact HA0.out.size)
  have HK0:=hide hk
  have HV0:=hide (HA0.out.trans m0 (by simp))
  have hm0:=m0
  clear hk hgk m0
  go_wp2_with fail
  refine PhF.on hm0 ?_
  clear hm0
  show wpQuiet _ _ _ _ _ _
  simp only[gd]
  refine wpQuiet_nil ?_
  intro x1 W1 mh
  simp only[pu]
  have HA1:=hide (HV0.out.trans mh (by simp))
  have HKa1:=hide (mh.blk HK0.out (by simp))
  clear mh
  go_wp2_with fail
  refine(enumber_any _ kn (by have:=HO.out.k2;have:=HKn.out;omega)).mono ?_
  rintro e0 v1 ⟨rfl,m1⟩
  have HV1:=hide (HA1.out.trans m1 (by simp))
  have HK1:=hide (m1.blk HKa1.out (by simp))
  have hm1:=m1
  clear m1
  go_wp2_with fail
  refine PhF.on hm1 ?_
  clear hm1
  show wpQuiet _ _ _ _ _ _
  simp only[gd]
  refine wpQuiet_nil ?_
  intro x2 W2 mh
  simp only[pu]
  have HA2:=hide (HV1.out.trans mh (by simp))
  have HKa2:=hide (mh.blk HK1.out (by simp))
  clear mh
  go_wp2_with fail
  refine(enumber_any _ e.time HO.out.time).mono ?_
  rintro e0 v2 ⟨rfl,m2⟩
  have HV2:=hide (HA2.out.trans m2 (by simp))
  have HK2:=hide (m2.blk HKa2.out (by simp))
  have hm2:=m2
  clear m2
  go_wp2_with fail
  refine PhF.on hm2 ?_
  clear hm2
  show wpQuiet _ _ _ _ _ _
  simp only[gd]
  refine wpQuiet_nil ?_
  intro x3 W3 mh
  simp only[pu]
  have HA3:=hide (HV2.out.trans mh (by simp))
  have HKa3:=hide (mh.blk HK2.out (by simp))
  clear mh
  go_wp2_with fail
  refine(enumber_any _ sn (by have:=HO.out.s2;have:=HSn.out;omega)).mono ?_
  rintro e0 v3 ⟨rfl,m3⟩
  have HV3:=hide (HA3.out.trans m3 (by simp))
  have HK3:=hide (m3.blk HKa3.out (by simp))
  have hm3:=m3
  clear m3
  go_wp2_with fail
  refine PhF.on hm3 ?_
  clear hm3
  show wpQuiet _ _ _ _ _ _
  simp only[gd]
  refine wpQuiet_nil ?_
  intro x4 W4 mh
  simp only[pu]
  have HA4:=hide (HV3.out.trans mh (by simp))
  have HKa4:=hide (mh.blk HK3.out (by simp))
  clear mh
  go_wp2_with fail
  refine(enumber_any _ e.num HO.out.num).mono ?_
  rintro e0 v4 ⟨rfl,m4⟩
  have HV4:=hide (HA4.out.trans m4 (by simp))
  have HK4:=hide (m4.blk HKa4.out (by simp))
  have hm4:=m4
  clear m4
  go_wp2_with fail
  refine PhF.on hm4 ?_
  clear hm4
  show wpQuiet _ _ _ _ _ _
  simp only[gd]
  refine wpQuiet_nil ?_
  intro x5 W5 mh
  simp only[pu]
  have HA5:=hide (HV4.out.trans mh (by simp))
  have HKa5:=hide (mh.blk HK4.out (by simp))
  clear mh
  go_wp2_with fail
  refine(enumber_any _ e.many HO.out.many).mono ?_
  rintro e0 v5 ⟨rfl,m5⟩
  have HV5:=hide (HA5.out.trans m5 (by simp))
  have HK5:=hide (m5.blk HKa5.out (by simp))
  have hm5:=m5
  clear m5
  go_wp2_with fail
  refine PhF.on hm5 ?_
  clear hm5
  show wpQuiet _ _ _ _ _ _
  simp only[gd]
  refine wpQuiet_nil ?_
  intro x6 W6 mh
  simp only[pu]
  have HA6:=hide (HV5.out.trans mh (by simp))
  have HKa6:=hide (mh.blk HK5.out (by simp))
  clear mh
  go_wp2_with fail
  refine(ewords_any _ e.text ).mono ?_
  rintro e0 v6 ⟨rfl,m6⟩
  have HV6:=hide (HA6.out.trans m6 (by simp))
  have HK6:=hide (m6.blk HKa6.out (by simp))
  have hm6:=m6
  clear m6
  go_wp2_with fail
  refine PhF.on hm6 ?_
  clear hm6
  show wpQuiet _ _ _ _ _ _
  simp only[gd]
  refine wpQuiet_nil ?_
  intro x7 W7 mh
  simp only[pu]
  have HA7:=hide (HV6.out.trans mh (by simp))
  have HKa7:=hide (mh.blk HK6.out (by simp))
  clear mh
  go_wp2_with (refine wpList_laid rfl 40 43 6 _ rfl _ rfl Tryz.underlying40 zval 5 zinfo (by decide) (by decide) [(0,.agg (jnN kn).cells),(1,.agg (jnN e.time).cells),(2,.agg (jnN sn).cells),(3,.agg (jnN e.num).cells),(4,.agg (jnN e.many).cells),(5,.agg (jtN e.text).cells)] rfl (jlcells [jnN kn,jnN e.time,jnN sn,jnN e.num,jnN e.many,jtN e.text]).toArray (by kernel_rfl) ?_;intro v7 m7 b7 s7;have HV7:=hide (HA7.out.trans m7 (by simp));have HK7:=hide (m7.blk HKa7.out (by simp));have HL7:=hide b7;have hm7:=m7;clear m7 b7 s7)
  obtain⟨gl,hgl⟩:∃gl,W7.heap.size=gl:=⟨_,rfl⟩
  rw[hgl]at HL7 ⊢
  have HGl:Hid (w2.heap.size≤gl∧gk≠gl):=hide (by rw[←hgl];exact⟨HA7.out.size,by have:=HKa7.out.lt;omega⟩)
  clear hgl
  refine PhF.on hm7 ?_
  clear hm7
  show wpQuiet _ _ _ _ _ _
  simp only[gd]
  repeat (go_big_quiet_step (fail))
  refine wpQuiet_nil ?_
  rintro _ W8 mh ⟨g,rfl,hgb,hgw⟩
  simp only[pu]
  have HA8:=hide (HV7.out.trans mh (by simp))
  have HKa8:=hide (mh.blk HK7.out (by simp))
  have HLa8:=hide (mh.blk HL7.out (by simp))
  have HGb:=hide hgb
  have HGg:=hide hgw
  clear mh hgb hgw
  show wpQuiet _ _ _ _ _ _
  simp only[gd]
  refine wpQuiet_nil ?_
  go_wp2_with (refine wpList_store_whole rfl 43 _ _ rfl rfl g 43 zcs (JN.mk 6 0 ⟨#[]⟩ (some ⟨gl,0,none⟩) 6 [jnN kn,jnN e.time,jnN sn,jnN e.num,jnN e.many,jtN e.text] (some ⟨gk,0,none⟩) 6 ekeys).cells HGb.out rfl rfl (by kernel_rfl) rfl (by kernel_rfl) ?_;intro w3 m3 b3 s3;have HM3:=hide (HA8.out.trans m3 (by intro x hx;right;simp at hx;subst hx;exact HGg.out));have HG3:=hide b3;have HK3:=hide (m3.blk HKa8.out (by simpa using HKa8.out.ne_ HGb.out (by decide)));have HL3:=hide (m3.blk HLa8.out (by simpa using HLa8.out.ne_size HGb.out (by rw[List.size_toArray,lcells_len];show(30:Nat)≠5;omega)));clear m3 b3 s3)
  refine Ph.on (fun h=>by cases h) ?_
  show wpQuiet _ _ _ _ _ _
  simp only[gd]
  refine wpQuiet_nil ?_
  have HB3:=hide (HM3.out.blk HB2.out (by simp))
  have HR3:=hide (HM3.out.blk HR2.out (by simp))
  have HMw:=hide (HM2.out.trans HM3.out (by simp))
  have hr2:=HR2.out.lt
  have HGw:Hid (w.heap.size+2≤g):=hide (Nat.le_trans hr2 HGg.out)
  have HLw:Hid (w.heap.size+2≤gl∧w.heap.size+2≤gk):=hide ⟨Nat.le_trans hr2 HGl.out.1,Nat.le_trans hr2 HGk.out⟩
  obtain⟨vb,hvb⟩:∃vb,e.bare=vb:=⟨_,rfl⟩
  have hba:=fun w' (m:Mod [] w3 w')=>bare_any w' A e.f.list.length c e (HRg2.out w' (HM3.out.trans m (by simp))) vb hvb
  have HVb:=hide hvb
  unfold evval at hba
  rw[HEc.out]at hba
  have HBa:=hide hba
  have XL3:=hide HB3.out.range
  clear hba hvb hr2 HB2 HR2 HKa8 HLa8 HGb HA8 HKn HSn
  go_wp2_with (refine wpList_load_mid rfl 38 _ rfl w.heap.size 0 rfl ec.toList _ XL3.out rfl rfl (by rw[Array.length_toList,HEz.out];kernel_rfl) ?_)
  refine(HBa.out w3 (Mod.refl [] w3)).mono ?_
  rintro e0 w4 ⟨rfl,m4⟩
  have HM4:=hide (HMw.out.trans m4 (by simp))
  have HB4:=hide (m4.blk HB3.out (by simp))
  have HR4:=hide (m4.blk HR3.out (by simp))
  have HG4:=hide (m4.blk HG3.out (by simp))
  have HK4:=hide (m4.blk HK3.out (by simp))
  have HL4:=hide (m4.blk HL3.out (by simp))
  have HRg4:=hide (fun w' (m:Mod [] w4 w')=>HRg2.out w' ((HM3.out.trans m4 (by simp)).trans m (by simp)))
  clear m4 HBa HMw HB3 HR3 HG3 HK3 HL3 HRg2 XL3 HM3
  cases vb with
  | true=>
   go_wp2_with (first | (refine wpList_load_mid rfl 43 _ rfl g 0 rfl (JN.mk 6 0 ⟨#[]⟩ (some ⟨gl,0,none⟩) 6 [jnN kn,jnN e.time,jnN sn,jnN e.num,jnN e.many,jtN e.text] (some ⟨gk,0,none⟩) 6 ekeys).cells.toList _ HG4.out.range rfl rfl (by kernel_rfl) ?_) | (refine wpList_store_whole rfl 43 _ _ rfl rfl (w.heap.size+1) 43 zcs (JN.mk 6 0 ⟨#[]⟩ (some ⟨gl,0,none⟩) 6 [jnN kn,jnN e.time,jnN sn,jnN e.num,jnN e.many,jtN e.text] (some ⟨gk,0,none⟩) 6 ekeys).cells HR4.out rfl rfl (by kernel_rfl) rfl (by kernel_rfl) ?_;intro w9 m9 b9 s9;have HM9:=hide m9;have HB9:=hide b9;clear m9 b9 s9))
   refine bodyPost_ret (results_cell_tmp_row rfl _ _ (w.heap.size+1) 43 (JN.mk 6 0 ⟨#[]⟩ (some ⟨gl,0,none⟩) 6 [jnN kn,jnN e.time,jnN sn,jnN e.num,jnN e.many,jtN e.text] (some ⟨gk,0,none⟩) 6 ekeys).cells _ rfl HB9.out Tryz.underlying43 rfl (by kernel_rfl)) rfl ?_
   have hl:=HLw.out
   have hg:=HGw.out
   refine⟨(JN.mk 6 0 ⟨#[]⟩ (some ⟨gl,0,none⟩) 6 [jnN kn,jnN e.time,jnN sn,jnN e.num,jnN e.many,jtN e.text] (some ⟨gk,0,none⟩) 6 ekeys),?_,?_,JIn.of_rows (HM9.out.blk HK4.out (by simp;omega)) (HM9.out.blk HL4.out (by simp;omega)) (by decide) (by decide) (by show 6≤1000;omega) ?_,HM4.out.trans HM9.out (by intro x hx;right;simp at hx;omega)⟩
   ·rw[HV.out];rfl
   ·rw[HV.out,if_pos rfl,j6_v,HKe.out,HSe.out]
    unfold evalue
    rw[HVb.out]
    rfl
   ·intro x hx
    simp only[List.mem_cons,List.not_mem_nil,or_false]at hx
    rcases hx with rfl | rfl | rfl | rfl | rfl | rfl <;> exact JIn.plain _ _ _ _
  | false=>
   have HFo:=hide (fmay_ok (bare_may HV.out HVb.out))
   have hl:=HLw.out
   have hg:=HGw.out
   have hgl:=HGl.out.2
   go_upto_region 5 with fail
   have y4:∀i:Fam (Mod [gk,gl] w4),i.w.cell? ⟨g,4,none⟩=some (.slice (some ⟨gk,0,none⟩) 6 6):=fam_cell0 (HG4.out.cell 4) (by have h1:=HG4.out.ne_ HK4.out (by decide);have h2:=HG4.out.ne_size HL4.out (by show(5:Nat)≠_;rw[List.size_toArray,lcells_len];show(5:Nat)≠30;omega);simp;exact⟨h1,h2⟩)
   have y3:∀i:Fam (Mod [gk,gl] w4),i.w.cell? ⟨g,3,none⟩=some (.slice (some ⟨gl,0,none⟩) 6 6):=fam_cell0 (HG4.out.cell 3) (by have h1:=HG4.out.ne_ HK4.out (by decide);have h2:=HG4.out.ne_size HL4.out (by show(5:Nat)≠_;rw[List.size_toArray,lcells_len];show(5:Nat)≠30;omega);simp;exact⟨h1,h2⟩)
   have HXf:Hid (∀v,Cls (Mod [gk,gl] w4) v→v.rangeAt w.heap.size 6 (fcs A e.f.list.length c e.f).toList):=hide (cls_part HB4.out (Mod.refl _ w4) HB4.out.lt (by simp;omega) (fun j u hu=>by
    rw[←HEc.out]
    have:j < 8:=(List.getElem?_eq_some_iff.1 hu).1
    rcases(show j=0∨j=1∨j=2∨j=3∨j=4∨j=5∨j=6∨j=7 by omega)with rfl | rfl | rfl | rfl | rfl | rfl | rfl | rfl <;> exact hu))
   refine wp_region_plan (Mod [gk,gl] w4) [12,14] [([0,1,4,5,6,7],2),([],3),([11],8),([],9),([],10),([],12),([],13),([],14)] [] (by kernel_rfl) (by kernel_rfl) (fun _ _ _ _ _ h=>h) ((Mod.refl _ w4).drew) ?_
   show wpQuiet _ _ _ _ _ _
   simp only[gd]
   repeat (first | (refine wpQuiet_row rfl 36 _ rfl w.heap.size 6 rfl (fcs A e.f.list.length c e.f).toList _ HXf.out rfl rfl (by kernel_rfl) ?_) | go_big_quiet_step (fail))
   refine wpQuiet_nil ?_
   clear y3 y4
   have HZ4:=hide (Mod.refl [] w4).drew
   go_wp2_with (refine wpList_laid rfl 41 9 1 _ rfl _ rfl Tryz.underlying41 (.string ⟨#[]⟩) 1 strZero (by decide) (by decide) [(0,.string fkey)] rfl #[.string fkey] (by kernel_rfl) ?_;intro v1 m1 b1 s1;have HZ5:=hide (HZ4.out.trans m1 (by simp));have HBk:=hide b1;clear m1 b1 s1)
   refine Ph.on (fun _=>HZ5.out.mono (by simp)) ?_
   show wpQuiet _ _ _ _ _ _
   simp only[gd]
   refine wpQuiet_nil ?_
   have hko:=ownk_laid (base:=w.heap.size+2) (HZ5.out.blk HK4.out (by simp)) hl.2 (by decide)
   obtain⟨B2,d2,v2,hrun,hown,hm2,hfr⟩:=app_one (P:=Tryz.prog) Tryz.underlying41 strInfo rfl v1 41 (w.heap.size+2) _ _ _ hko (Nat.le_trans (by have:=HK4.out.lt;omega) HZ5.out.size) [.string fkey] rfl (by simp[Value.oneCell']) (by decide) (by decide) _ (fun j u hu=>by rw[HBk.out.cell j,List.getElem?_toArray,hu])
   have hm2:Mod [gk] v1 v2:=hm2
   have HRun:Hid ((Builtin.append_ #[41,41] 41 #[.slice (some ⟨gk,0,none⟩) 6 6,.slice (some ⟨w4.heap.size,0,none⟩) 1 1]).run Tryz.prog v1=.ok (.slice B2 7 d2) v2):=hide hrun
   have HOk:Hid (v2.ownsRow (w.heap.size+2) 9 1 (.slice B2 (ekeys++ [fkey]).length d2) (ekeys++ [fkey]).length ((ekeys++ [fkey]).map Value.string)):=hide hown
   have HBn:Hid (∀k,B2.map (·.block)=some k→k=gk∨v1.heap.size≤k):=hide (fun k hk=>by
    cases B2 with
    | none=>cases hk
    | some a=>
     have hk:a.block=k:=by simpa using hk
     rcases hfr with h | h
     ·have h:some a.block=some gk:=h
      cases h;exact .inl hk.symm
     ·have h:some a.block=some v1.heap.size:=h
      have h:=Option.some.inj h
      exact .inr (by omega))
   have HZ6:=hide ((HZ5.out.mono (G:= [gk]) (by simp)).trans hm2 (fun x hx=> .inl hx))
   clear hko hrun hown hfr
   go_wp2_with (at_builtin;refine Lib.wpList_append_run _ rfl (.tmp 36) (.tmp 37) 41 41 rfl (.slice (some ⟨gk,0,none⟩) 6 6) (.slice (some ⟨w4.heap.size,0,none⟩) 1 1) rfl rfl _ v2 HRun.out ?_)
   refine Ph.on (fun _=>HZ6.out.mono (by simp)) ?_
   show wpQuiet _ _ _ _ _ _
   simp only[gd]
   repeat (go_big_quiet_step (fail))
   refine wpQuiet_nil ?_
   have HMv:Hid (Mod [] w v2):=hide (HM4.out.trans HZ6.out (by intro x hx;right;simp at hx;omega))
   go_wp2_with fail
   refine(frameValue_any v2 A c e.f (HRgw.out v2 HMv.out) HFo.out).mono ?_
   rintro e0 v3 ⟨gf,gq,lN,rfl,hbf,hbq,hlv,hli,hgf,hgq,hft,m3⟩
   have HZ7:=hide (HZ6.out.trans m3 (by simp))
   have hm23:=m3
   have HLv:=hide hlv
   clear hlv m3
   go_wp2_with fail
   refine Ph.on (fun _=>HZ7.out.mono (by simp)) ?_
   show wpQuiet _ _ _ _ _ _
   simp only[gd]
   refine wpQuiet_nil ?_
   go_wp2_with (refine wpList_laid rfl 40 43 1 _ rfl _ rfl Tryz.underlying40 zval 5 zinfo (by decide) (by decide) [(0,.agg (JN.mk 6 0 ⟨#[]⟩ (some ⟨gf,0,none⟩) 8 [jnN e.f.kind,jnN e.f.a,jnN e.f.b,jnN e.f.c,jbN e.f.fin,jtN e.f.data,jtN e.f.more,lN] (some ⟨gq,0,none⟩) 8 fkeys).cells)] rfl (JN.mk 6 0 ⟨#[]⟩ (some ⟨gf,0,none⟩) 8 [jnN e.f.kind,jnN e.f.a,jnN e.f.b,jnN e.f.c,jbN e.f.fin,jtN e.f.data,jtN e.f.more,lN] (some ⟨gq,0,none⟩) 8 fkeys).cells (by kernel_rfl) ?_;intro v4 m4 b4 s4;have HZ8:=hide (HZ7.out.trans m4 (by simp));have HB8:=hide b4;have hm24:=hm23.trans m4 (by simp);have hbf4:=m4.blk hbf (by simp);have hbq4:=m4.blk hbq (by simp);have hli4:=JIn.new m4 hli;have hz4:=m4.size;clear m4 b4 s4 hbf hbq hli)
   refine Ph.on (fun _=>HZ8.out.mono (by simp)) ?_
   have hgl4:=HL4.out.lt
   have hg4:=HG4.out.lt
   have hz24:=hm24.size
   have hzk:=HZ6.out.size
   have hvl:VLs v4 (w.heap.size+2) (some ⟨gl,0,none⟩) 6 [jnN kn,jnN e.time,jnN sn,jnN e.num,jnN e.many,jtN e.text]:=VLs.laid (l:= [jnN kn,jnN e.time,jnN sn,jnN e.num,jnN e.many,jtN e.text]) (HZ8.out.blk HL4.out (by simp;omega)) hl.1 (by show 6≤1000000;omega) (fun x hx=>by
    simp only[List.mem_cons,List.not_mem_nil,or_false]at hx
    rcases hx with rfl | rfl | rfl | rfl | rfl | rfl <;> refine⟨JIn.plain _ _ _ _,fun k hk=> ?_⟩ <;> first | (rw[jnN_foot]at hk;cases hk) | (rw[jtN_foot]at hk;cases hk))
   have hjf:JIn v4 (JN.mk 6 0 ⟨#[]⟩ (some ⟨gf,0,none⟩) 8 [jnN e.f.kind,jnN e.f.a,jnN e.f.b,jnN e.f.c,jbN e.f.fin,jtN e.f.data,jtN e.f.more,lN] (some ⟨gq,0,none⟩) 8 fkeys):=JIn.of_rows hbq4 hbf4 (by decide) (by decide) (by show 8≤1000;omega) (fun x hx=>by
    simp only[List.mem_cons,List.not_mem_nil,or_false]at hx
    rcases hx with rfl | rfl | rfl | rfl | rfl | rfl | rfl | rfl <;> first | exact JIn.plain _ _ _ _ | exact hli4)
   have hff:∀k∈JFoot (JN.mk 6 0 ⟨#[]⟩ (some ⟨gf,0,none⟩) 8 [jnN e.f.kind,jnN e.f.a,jnN e.f.b,jnN e.f.c,jbN e.f.fin,jtN e.f.data,jtN e.f.more,lN] (some ⟨gq,0,none⟩) 8 fkeys),v2.heap.size≤k∧k < v4.heap.size:=fun k hk=>by
    rw[JFoot,JFoots,JFoots,JFoots,JFoots,JFoots,JFoots,JFoots,JFoots,JFoots,jnN_foot,jnN_foot,jnN_foot,jnN_foot,jbN_foot,jtN_foot,jtN_foot]at hk
    simp only[Option.map_some,Option.toList_some,List.nil_append,List.append_nil,List.mem_append,List.mem_singleton]at hk
    rcases hk with(rfl | rfl) | hk
    ·exact⟨hgf,hbf4.lt⟩
    ·exact⟨hgq,hbq4.lt⟩
    ·have:=hft k hk;omega
   obtain⟨A2,c2,v5,hrun,hvl5,hfr5,hown5,hm5⟩:=hvl.app (by omega) (by show 6≤1000000;omega) (JN.mk 6 0 ⟨#[]⟩ (some ⟨gf,0,none⟩) 8 [jnN e.f.kind,jnN e.f.a,jnN e.f.b,jnN e.f.c,jbN e.f.fin,jtN e.f.data,jtN e.f.more,lN] (some ⟨gq,0,none⟩) 8 fkeys) hjf (fun k hk=>by
    obtain⟨a1,a2⟩:=hff k hk
    exact⟨by omega,a2,fun he=>by have he:gl=k:=Option.some.inj he;omega⟩) _ HB8.out
   have hm5:Mod [gl] v4 v5:=hm5
   have HRun2:Hid ((Builtin.append_ #[40,40] 40 #[.slice (some ⟨gl,0,none⟩) 6 6,.slice (some ⟨v3.heap.size,0,none⟩) 1 1]).run Tryz.prog v4=.ok (.slice A2 7 c2) v5):=hide hrun
   have hng:g≠gk∧g≠gl:=⟨HG4.out.ne_ HK4.out (by decide),HG4.out.ne_size HL4.out (by show(5:Nat)≠_;rw[List.size_toArray,lcells_len];show(5:Nat)≠30;omega)⟩
   have hz5:Mod [gk,gl] w4 v5:=(HZ8.out.mono (by simp)).trans hm5 (fun x hx=> .inl (by simp at hx;simp[hx]))
   have HZ9:=hide hz5
   have HG5:=hide (hz5.blk HG4.out (by simp;exact hng))
   have HR5:=hide (hz5.blk HR4.out (by simp;omega))
   have HV5:=hide hvl5
   have HFr:=hide hfr5
   have HM24:=hide hm24
   have HM45:=hide hm5
   have HFf:=hide hff
   have HNg:=hide hng
   have HLt:=hide (And.intro hgl4 (And.intro hg4 (And.intro hz24 hzk)))
   clear hvl hjf hff hrun hvl5 hfr5 hown5 hm5 hz5 hbf4 hbq4 hli4 hft hm24 hm23 hgf hgq hng
   show wpQuiet _ _ _ _ _ _
   simp only[gd]
   refine wpQuiet_nil ?_
   go_wp2_with (at_builtin;refine Lib.wpList_append_run _ rfl (.tmp 40) (.tmp 44) 40 40 rfl (.slice (some ⟨gl,0,none⟩) 6 6) (.slice (some ⟨v3.heap.size,0,none⟩) 1 1) rfl rfl _ v5 HRun2.out ?_)
   refine Ph.on (fun _=>HZ9.out) ?_
   show wpQuiet _ _ _ _ _ _
   simp only[gd]
   refine wpQuiet_nil ?_
   have c4:v5.cell? ⟨g,4,none⟩=some (.slice (some ⟨gk,0,none⟩) 6 6):=HG5.out.cell 4
   have c3:v5.cell? ⟨g,3,none⟩=some (.slice (some ⟨gl,0,none⟩) 6 6):=HG5.out.cell 3
   have u4:v5.frozen? ⟨g,4,none⟩=false:=HG5.out.frozen 4
   have u3:v5.frozen? ⟨g,3,none⟩=false:=HG5.out.frozen 3
   have lg5:=HG5.out.lt
   go_wp2_with fail
   refine Ph.on (fun h=>by cases h) ?_
   show wpQuiet _ _ _ _ _ _
   simp only[gd]
   refine wpQuiet_nil ?_
   go_wp2_with fail
   refine Ph.on (fun h=>by cases h) ?_
   show wpQuiet _ _ _ _ _ _
   simp only[gd]
   refine wpQuiet_nil ?_
   go_wp2_with fail
   refine Ph.on (fun h=>by cases h) ?_
   show wpQuiet _ _ _ _ _ _
   simp only[gd]
   refine wpQuiet_nil ?_
   clear c3 c4 u3 u4 lg5
   obtain⟨v6,hv6⟩:∃v6,(v5.setCell ⟨g,4,none⟩ (.slice B2 7 d2)).setCell ⟨g,3,none⟩ (.slice A2 7 c2)=v6:=⟨_,rfl⟩
   rw[hv6]
   have HG6:Hid (Blk v6 g 43 (JN.mk 6 0 ⟨#[]⟩ A2 c2 ([jnN kn,jnN e.time,jnN sn,jnN e.num,jnN e.many,jtN e.text]++ [(JN.mk 6 0 ⟨#[]⟩ (some ⟨gf,0,none⟩) 8 [jnN e.f.kind,jnN e.f.a,jnN e.f.b,jnN e.f.c,jbN e.f.fin,jtN e.f.data,jtN e.f.more,lN] (some ⟨gq,0,none⟩) 8 fkeys)]) B2 d2 (ekeys++ [fkey])).cells):=hide (by rw[←hv6];exact(HG5.out.set_ 4 _).set_ 3 _)
   have HM6:Hid (Mod [g] v5 v6):=hide (by rw[←hv6];exact((Mod.refl [g] v5).setCell (p:=⟨g,4,none⟩) (.inl (by simp)) _).setCell (p:=⟨g,3,none⟩) (.inl (by simp)) _)
   have HR6:=hide (HM6.out.blk HR5.out (by simp;omega))
   clear hv6
   go_wp2_with (first | (refine wpList_load_mid rfl 43 _ rfl g 0 rfl (JN.mk 6 0 ⟨#[]⟩ A2 c2 ([jnN kn,jnN e.time,jnN sn,jnN e.num,jnN e.many,jtN e.text]++ [(JN.mk 6 0 ⟨#[]⟩ (some ⟨gf,0,none⟩) 8 [jnN e.f.kind,jnN e.f.a,jnN e.f.b,jnN e.f.c,jbN e.f.fin,jtN e.f.data,jtN e.f.more,lN] (some ⟨gq,0,none⟩) 8 fkeys)]) B2 d2 (ekeys++ [fkey])).cells.toList _ HG6.out.range rfl rfl (by kernel_rfl) ?_) | (refine wpList_store_whole rfl 43 _ _ rfl rfl (w.heap.size+1) 43 zcs (JN.mk 6 0 ⟨#[]⟩ A2 c2 ([jnN kn,jnN e.time,jnN sn,jnN e.num,jnN e.many,jtN e.text]++ [(JN.mk 6 0 ⟨#[]⟩ (some ⟨gf,0,none⟩) 8 [jnN e.f.kind,jnN e.f.a,jnN e.f.b,jnN e.f.c,jbN e.f.fin,jtN e.f.data,jtN e.f.more,lN] (some ⟨gq,0,none⟩) 8 fkeys)]) B2 d2 (ekeys++ [fkey])).cells HR6.out rfl rfl (by kernel_rfl) rfl (by kernel_rfl) ?_;intro w9 m9 b9 s9;have HM9:=hide m9;have HB9:=hide b9;clear m9 b9 s9))
   refine bodyPost_ret (results_cell_tmp_row rfl _ _ (w.heap.size+1) 43 (JN.mk 6 0 ⟨#[]⟩ A2 c2 ([jnN kn,jnN e.time,jnN sn,jnN e.num,jnN e.many,jtN e.text]++ [(JN.mk 6 0 ⟨#[]⟩ (some ⟨gf,0,none⟩) 8 [jnN e.f.kind,jnN e.f.a,jnN e.f.b,jnN e.f.c,jbN e.f.fin,jtN e.f.data,jtN e.f.more,lN] (some ⟨gq,0,none⟩) 8 fkeys)]) B2 d2 (ekeys++ [fkey])).cells _ rfl HB9.out Tryz.underlying43 rfl (by kernel_rfl)) rfl ?_
   have hfr:=HFr.out
   have hff:=HFf.out
   have hng:=HNg.out
   have hbn:=HBn.out
   have hz12:=HZ5.out.size
   have hb2:=HOk.out.lt
   have hm29:Mod [gl,g,w.heap.size+1] v2 w9:=((HM24.out.mono (by simp)).trans (HM45.out) (fun x hx=> .inl (by simp at hx;simp[hx]))).trans HM6.out (fun x hx=> .inl (by simp at hx;simp[hx])) |>.trans HM9.out (fun x hx=> .inl (by simp at hx;simp[hx]))
   have hm59:Mod [g,w.heap.size+1] v5 w9:=(HM6.out.mono (by simp)).trans HM9.out (fun x hx=> .inl (by simp at hx;simp[hx]))
   refine⟨(JN.mk 6 0 ⟨#[]⟩ A2 c2 ([jnN kn,jnN e.time,jnN sn,jnN e.num,jnN e.many,jtN e.text]++ [(JN.mk 6 0 ⟨#[]⟩ (some ⟨gf,0,none⟩) 8 [jnN e.f.kind,jnN e.f.a,jnN e.f.b,jnN e.f.c,jbN e.f.fin,jtN e.f.data,jtN e.f.more,lN] (some ⟨gq,0,none⟩) 8 fkeys)]) B2 d2 (ekeys++ [fkey])),?_,?_,?_,?_⟩
   ·rw[HV.out];rfl
   ·rw[HV.out,if_pos rfl,HKe.out,HSe.out]
    unfold evalue
    rw[HVb.out,JN.v]
    simp only[JN.vs_app,JN.vs,jnN_v,jtN_v,jbN_v]
    rw[JN.v]
    simp only[JN.vs,jnN_v,jtN_v,jbN_v,HLv.out]
    rfl
   ·rw[JIn]
    refine⟨⟨by show 7≤jmax;unfold jmax;omega,by show 7≤jmax;unfold jmax;omega,own_cap HOk.out⟩,(KeysAt.own HOk.out).mod hm29 (fun k hk hm=> ?_),HV5.out.row.mod hm59 (fun k hk hm=> ?_),JIns.mod hm59 (fun k hk hm=> ?_) HV5.out.jins⟩
    ·have h1:=hbn k (by simpa using hk)
     simp only[List.mem_cons,List.not_mem_nil,or_false]at hm
     omega
    ·have h1:=hfr k (by cases A2 with | none=>cases hk | some a=>(have hk:k=a.block:=by simpa using hk);rw[hk];rfl)
     have h1:gl=k∨v4.heap.size≤k:=h1.imp (fun h=>Option.some.inj h) id
     simp only[List.mem_cons,List.not_mem_nil,or_false]at hm
     omega
    ·obtain⟨x,h1,h2⟩:=JFoots.inv hk
     simp only[List.mem_cons,List.not_mem_nil,or_false,List.cons_append,List.nil_append]at h1 hm
     rcases h1 with rfl | rfl | rfl | rfl | rfl | rfl | rfl
     all_goals first | (rw[jnN_foot]at h2;cases h2;done) | (rw[jtN_foot]at h2;cases h2;done) | (have:=hff k h2;omega)
   ·exact((HM4.out.trans HZ9.out (by intro x hx;right;simp at hx;omega)).trans HM6.out (by intro x hx;right;simp at hx;omega)).trans HM9.out (by intro x hx;right;simp at hx;omega)
theorem ewritten_any (w:World) (A:Option Addr) (c:Nat) (e:Ev) (hr:Rngs w A e.f.list.length e.f.list) (hm:emay e=true) (B:Nat) (hB:B≤w.heap.size) (hj:JVars B w):
  Calls Tryz.prog 48 #[evval A e.f.list.length c e] w fun r w'=>r=.returned (str (jwr (evalue e)))∧Mod [] w w':=by
 obtain⟨ec,hec⟩:∃ec,ecs A e.f.list.length c e=ec:=⟨_,rfl⟩
 have HEz:Hid (ec.size=14):=hide (by rw[←hec];rfl)
 obtain⟨w1,hw1⟩:∃w1,w.alloc (.cells ec 38)=w1:=⟨_,rfl⟩
 have HM1:Hid (Mod [] w w1):=hide (by rw[←hw1];exact(Mod.refl [] w).alloc _)
 have HB1:Hid (Blk w1 w.heap.size 38 ec):=hide (by rw[←hw1];exact Blk.new w 38 ec)
 have hva:=evalue_any w1 A c e (hr.new HM1.out)
 unfold evval at hva ⊢
 rw[hec]at hva ⊢
 have HVa:=hide hva
 have XL1:=hide HB1.out.range
 have HMy:=hide hm
 clear hr hva hec hm
 go_enter Tryz.func48,Tryz.ntmps48
 go_upto_region 1 with fail
 clear hw1
 go_wp2_with (refine wpList_load_mid rfl 38 _ rfl w.heap.size 0 rfl ec.toList _ XL1.out rfl rfl (by rw[Array.length_toList,HEz.out];kernel_rfl) ?_)
 refine HVa.out.mono ?_
 rintro e0 w2 ⟨x,rfl,hxv,hxi,m2⟩
 rw[HMy.out,if_pos rfl]at hxv ⊢
 have HM2:=hide (HM1.out.trans m2 (by simp))
 obtain⟨xc,hxc⟩:∃xc,x.cells=xc:=⟨_,rfl⟩
 have HXz:Hid (xc.size=5):=hide (by rw[←hxc];exact x.cells_size)
 have HX1:Hid (xc.all (·.oneCell')=true):=hide (by rw[←hxc];cases x;simp[JN.cells,Value.oneCell'])
 have hwr:=fun w' (m:Mod [] w2 w')=>write_any w' x (JIn.new m hxi) (by rw[hxv];exact jrng_ev HMy.out) (by rw[hxv];have:=jwr_ev HMy.out;omega) B (Nat.le_trans hB ((HM2.out.trans m (by simp)).size)) (hj.mod (HM2.out.trans m (by simp)) hB (by simp)) true (by rw[hxv];exact jmay_ev e)
 simp only[if_true,hxv]at hwr
 rw[hxc]at hwr ⊢
 have HWr:=hide hwr
 clear m2 hxi hxc hwr hxv
 go_wp2_with (first | (refine wpList_store_open rfl 43 _ _ rfl rfl _ xc rfl rfl (by rw[HXz.out];kernel_rfl) (by rw[HXz.out];rfl) HX1.out ?_;intro w3 m3 b3 s3;have HM3:=hide (HM2.out.trans m3 (by simp));have HM23:=hide m3;have HX3:=hide b3.range;clear m3 b3 s3) | (refine wpList_load_mid rfl 43 _ rfl w2.heap.size 0 rfl xc.toList _ HX3.out rfl rfl (by rw[Array.length_toList,HXz.out];kernel_rfl) ?_))
 refine(HWr.out _ HM23.out).mono ?_
 rintro e0 w4 ⟨rfl,m4⟩
 go_wp2_with fail
 go_ret
 exact⟨rfl,HM3.out.trans m4 (by simp)⟩
theorem seq1_any (w:World) (x:EV) (hr:Rngs w x.A x.e.f.list.length x.e.f.list) (hm:emay x.e=true) (B:Nat) (hB:B≤w.heap.size) (hj:JVars B w):
  Calls Tryz.prog 47 #[x.val] w fun r w'=>r=.returned (str (srec x.e))∧Mod [] w w':=by
 obtain⟨e,A,c⟩:=x
 dsimp only at hr hm ⊢
 unfold EV.val
 dsimp only
 obtain⟨ec,hec⟩:∃ec,ecs A e.f.list.length c e=ec:=⟨_,rfl⟩
 have HEz:Hid (ec.size=14):=hide (by rw[←hec];rfl)
 obtain⟨w1,hw1⟩:∃w1,w.alloc (.cells ec 38)=w1:=⟨_,rfl⟩
 have HM1:Hid (Mod [] w w1):=hide (by rw[←hw1];exact(Mod.refl [] w).alloc _)
 have HB1:Hid (Blk w1 w.heap.size 38 ec):=hide (by rw[←hw1];exact Blk.new w 38 ec)
 have hva:=ewritten_any w1 A c e (hr.new HM1.out) hm B (Nat.le_trans hB HM1.out.size) (hj.mod HM1.out hB (by simp))
 obtain⟨D,hD⟩:∃D:ByteArray,(⟨(jwr (evalue e)).toArray⟩:ByteArray)=D:=⟨_,rfl⟩
 have hds:D.size≤1020000:=by rw[←hD];exact jwr_ev hm
 have HE:Hid (str (srec e)=.string (((⟨#[30]⟩:ByteArray)++ D)++ (⟨#[10]⟩:ByteArray))):=hide (by
  rw[←hD]
  unfold str srec
  congr 1)
 unfold evval str at hva
 unfold evval
 rw[hec,hD]at hva
 rw[hec,HE.out]
 have HVa:=hide hva
 have XL1:=hide HB1.out.range
 clear hr hva hec hm hD
 go_enter Tryz.func47,Tryz.ntmps47
 go_upto_region 1 with fail
 clear hw1
 go_wp2_with (refine wpList_load_mid rfl 38 _ rfl w.heap.size 0 rfl ec.toList _ XL1.out rfl rfl (by rw[Array.length_toList,HEz.out];kernel_rfl) ?_)
 refine HVa.out.mono ?_
 rintro e0 w2 ⟨rfl,m2⟩
 have s1:((⟨#[30]⟩:ByteArray)++ D).size=1+D.size:=by rw[ByteArray.size_append];rfl
 go_wp2_with fail
 go_ret
 exact⟨rfl,HM1.out.trans m2 (by simp)⟩
theorem seq_any (w:World) (A:Option Addr) (c:Nat) (l:List EV) (h:EIn w A l) (hl:l.length≤100000) (B:Nat) (hB:B≤w.heap.size) (hj:JVars B w):
  Calls Tryz.prog 20 #[.slice A l.length c] w fun r w'=>r=.returned (allTold srec l)∧Mod [] w w':=by
 have H:=hide (all_any w A c l h hl 47 srec (fun e he=>by have:=srec_le he;omega) (fun args w=>by kernel_rfl) (fun w' m x hx hm=>seq1_any w' x ((h.rng x hx).new m) hm B (Nat.le_trans hB m.size) (hj.mod m hB (by simp))))
 obtain⟨S,N,hS⟩:∃S N,allTold srec l=.tuple #[S,N]:=⟨_,_,rfl⟩
 rw[hS]at H ⊢
 clear h hS hj
 go_enter Tryz.func20,Tryz.ntmps20
 go_wp2_with fail
 refine H.out.mono ?_
 rintro e0 w1 ⟨rfl,m1⟩
 go_wp2_with fail
 go_ret2
 exact⟨rfl,m1⟩
end Go.Proofs.YtlfjhgamlkbofaaGreatDoor
