/-
  Contracts of the functions that the laws of this seat reach, and plain laws, part 6 of 13; no condition.
-/
import Derived.Test.YtlfjhgamlkbofaaGreatDoorPC
import Derived.Test.YtlfjhgamlkbofaaGreatDoorPJ1
import Derived.Deep.RegionHeldLaw
import Derived.Deep.DeepCutAuto
import Derived.Defers
import Derived.Recover
import Derived.Laws.Pointers
set_option linter.unusedVariables false
set_option linter.unusedSimpArgs false
set_option linter.unnecessarySimpa false
set_option maxRecDepth 100000
set_option maxHeartbeats 16000000
namespace Go.Proofs.YtlfjhgamlkbofaaGreatDoor
open Go.RowKit Js Go.Sort
theorem mstep_f (P:Pa JV) (s:List UInt8) (l:List JV) (ks:List (List UInt8)):((jstep P false (jmanyT P false) s).bind fun y r=>PR.ok (l++ y.1,ks++ y.2) r)=
  (P s).bind fun v r=>(jtake (fun c=>c==44 || c==93) r).bind fun c r=>if(c==93)=true then .ok (l++ [v],ks) r else(jmanyT P false r).bind fun y r=> .ok (l++ (v ::y.1),ks++ y.2) r:=by
 unfold jstep jfront
 simp only[Bool.false_eq_true,if_false,PR.bind]
 cases P s with
 | er r=>rfl
 | ok v r=>
  simp only
  cases jtake (fun c=>c==44 || c==93) r with
  | er r=>rfl
  | ok c r=>
   simp only
   by_cases h:(c==93)=true
   ·rw[if_pos h,if_pos h];simp
   ·rw[if_neg h,if_neg h]
    cases jmanyT P false r with
    | er r=>rfl
    | ok y r=>simp
theorem sep93_in:inB ⟨#[44,93]⟩=fun c=>c==44 || c==93:=by
 funext x
 unfold inB
 show List.contains [44,93] x=_
 rw[List.contains_cons,List.contains_cons,List.contains_nil,Bool.or_false]
theorem sep125_in:inB ⟨#[44,125]⟩=fun c=>c==44 || c==125:=by
 funext x
 unfold inB
 show List.contains [44,125] x=_
 rw[List.contains_cons,List.contains_cons,List.contains_nil,Bool.or_false]
theorem cells5 (x:JN):∃c0 c1 c2 c3 n3 d3 c4 n4 d4,x.cells= #[.int .i64 c0,.int .i64 c1,.string c2,.slice c3 n3 d3,.slice c4 n4 d4]:=by cases x;exact⟨_,_,_,_,_,_,_,_,_,rfl⟩
theorem mstep_t (P:Pa JV) (s s':List UInt8) (l:List JV) (ks:List (List UInt8)) {kk:List UInt8} (K:Pa (List JV×List (List UInt8))) (hk:jkey s=.ok kk s'):((jstep P true K s).bind fun y r=>PR.ok (l++ y.1,ks++ y.2) r)=
  (P s').bind fun v r=>(jtake (fun c=>c==44 || c==125) r).bind fun c r=>if(c==125)=true then .ok (l++ [v],ks++ [kk]) r else(K r).bind fun y r=> .ok (l++ (v ::y.1),ks++ (kk ::y.2)) r:=by
 unfold jstep jfront
 simp only[if_true,hk,PR.bind]
 cases P s' with
 | er r=>rfl
 | ok v r=>
  simp only
  cases jtake (fun c=>c==44 || c==125) r with
  | er r=>rfl
  | ok c r=>
   simp only
   by_cases h:(c==125)=true
   ·rw[if_pos h,if_pos h]
   ·rw[if_neg h,if_neg h]
    cases K r with
    | er r=>rfl
    | ok y r=>simp
theorem colS_in:inB ⟨#[58]⟩=(· ==58):=by
 funext x
 unfold inB
 show List.contains [58] x=_
 rw[List.contains_cons,List.contains_nil,Bool.or_false]
theorem step_append_runL {P:Program} {ops:Array Oper} {o:Oper} {a:Act} {w:World} {K:Act→World→Prop} {Q:Exit→Act→World→Prop} {E:Prop}
  (hg:o.guard=none) (d x:Operand) (dT sT:TypeId) (hop:o.op=Op.call { callee:=Callee.builtin Builtin.append,args:= #[d,x],argTypes:= #[dT,sT] })
  (v u:Value) (hd:a.eval d=v) (hx:a.eval x=u) {v':Value} {w':World} (hr:(Builtin.append_ #[dT,sT] o.type #[v,u]).run P w=.ok v' w') (hK:K (a.put o.dst v') w'):
  if Region.wanted o (yielded ops a.tmps)=true then Oper.wp P o a w K Q else E:=by
 have hw:Region.wanted o (yielded ops a.tmps)=true:=by simp[Region.wanted,hg]
 rw[if_pos hw]
 unfold Oper.wp
 simp[execOp,hop,resolve,invoke,builtin,hd,hx,hr,Result.andThen]
 exact hK
def VQ (w:World) (v:JV) (w':World) (u:Value):Prop:=∃x:JN,u=.agg x.cells∧x.v=v∧JIn w' x∧∀g∈JFoot x,w.heap.size≤g∧g < w'.heap.size
def ValueOk (n:Nat):Prop:=∀(w:World) (p k:Nat) (s:ByteArray),Rd w p s k→JVars p w→
 Calls Tryz.prog 111 #[.pointer (some ⟨p,0,none⟩),.int .i64 (9 - n:Int)] w (RP w p s (jvalue n (rst s k)) (VQ w))
def MP (w:World) (p vb:Nat) (s:ByteArray) (kd:Int) (x:PR (List JV×List (List UInt8))) (e:Ending) (w':World):Prop:=Mod [p,vb] w w'∧match x with
 | .ok y r=>∃k',e=.returned (.tuple #[])∧Rd w' p s k'∧rst s k'=r∧∃(A:Option Addr) (c:Nat) (l:List JN) (B:Option Addr) (d:Nat) (ks:List ByteArray),Blk w' vb 43 (JN.mk kd 0 ⟨#[]⟩ A c l B d ks).cells∧JN.vs l=y.1∧ks=y.2.map tob∧
   JIn w' (.mk kd 0 ⟨#[]⟩ A c l B d ks)∧∀g∈JFoot (.mk kd 0 ⟨#[]⟩ A c l B d ks),w.heap.size≤g∧g < w'.heap.size
 | .er r=>∃k',e=pan k'∧k'≤s.size∧rst s k'=r
theorem MP.ok {w w':World} {p vb:Nat} {s:ByteArray} {kd:Int} {x:PR (List JV×List (List UInt8))} {y:List JV×List (List UInt8)} {r:List UInt8} {k:Nat} {A B:Option Addr} {c d:Nat} {l:List JN} {ks:List ByteArray} (hx:x=.ok y r) (m:Mod [p,vb] w w') (hr:Rd w' p s k) (hk:rst s k=r) (hb:Blk w' vb 43 (JN.mk kd 0 ⟨#[]⟩ A c l B d ks).cells) (h1:JN.vs l=y.1) (h2:ks=y.2.map tob) (hi:JIn w' (.mk kd 0 ⟨#[]⟩ A c l B d ks)) (hf:∀g∈JFoot (.mk kd 0 ⟨#[]⟩ A c l B d ks),w.heap.size≤g∧g < w'.heap.size):MP w p vb s kd x (.returned (.tuple #[])) w':=by
 subst hx
 exact⟨m,k,rfl,hr,hk,A,c,l,B,d,ks,hb,h1,h2,hi,hf⟩
theorem MP.er {w w':World} {p vb:Nat} {s:ByteArray} {kd:Int} {x:PR (List JV×List (List UInt8))} {r:List UInt8} {k:Nat} (hx:x=.er r) (m:Mod [p,vb] w w') (hl:k≤s.size) (hk:rst s k=r):MP w p vb s kd x (pan k) w':=by
 subst hx
 exact⟨m,k,rfl,hl,hk⟩
theorem many_false (n:Nat) (hn:n≤8) (hV:ValueOk n) (w:World) (p k vb:Nat) (s:ByteArray) (h:Rd w p s k) (hk:k < s.size) (hv:Blk w vb 43 (JN.mk 5 0 ⟨#[]⟩ none 0 [] none 0 []).cells) (hpv:p < vb) (hj:JVars p w):
  Calls Tryz.prog 149 #[.pointer (some ⟨p,0,none⟩),.pointer (some ⟨vb,0,none⟩),.int .u8 93,.int .i64 (8 - n:Int)] w (MP w p vb s 5 (jlist (jvalue n) false (rst s (k+1)))):=by
 have hs:=h.small
 obtain⟨base,hbase⟩:∃base,w.heap.size=base:=⟨_,rfl⟩
 have HBs:=hide hbase
 have hvlt:=hv.lt
 have hpb:p < base:=by omega
 have hvb:vb < base:=by omega
 have HPb:=hide hpb
 have HVb:=hide hvb
 have HVp:=hide hpv
 have hst:=h.step hk
 have m1:Mod [p,vb] w (w.setCell ⟨p,1,none⟩ (.int .i64 ((k:Int)+1))):=(Mod.refl _ w).setCell (.inl (by simp)) _
 have HM1:=hide m1
 have H1:=hide hst
 have HS1:=hide ((MS.fresh hv base).mod (F:= [p]) ((Mod.refl [p] w).setCell (p:=⟨p,1,none⟩) (.inl (by simp)) (.int .i64 ((k:Int)+1))) (by simp;omega))
 have HJ1:=hide (hj.mod m1 (by omega) (by simp;omega))
 have HSp:=hide (fun w' k' (h':Rd w' p s k')=>space_any w' p k' s h')
 have HNx:=hide (fun w' k' (h':Rd w' p s k')=>next_mod w' p k' s h')
 have HTx:=hide (fun w' k' (h':Rd w' p s k')=>text_any w' p k' s h')
 have HVl:=hide hV
 have HGd:=hide (Good.value n)
 have a1:IntKind.i64.wrap ((k:Int)+1)=(k:Int)+1:=IntWalk.i64_in _ (by omega)
 have y0:w.cell? ⟨p,0,none⟩=some (.string s):=h.blk.cell 0
 have y1:w.cell? ⟨p,1,none⟩=some (.int .i64 (k:Nat)):=h.blk.cell 1
 have u1:w.frozen? ⟨p,1,none⟩=false:=h.blk.frozen 1
 have lp:=h.blk.lt
 have HLv:=hide hvlt
 have HJ0:=hide hj
 clear h hv hj hst m1 hvlt hpb hvb hV hbase
 go_enter Tryz.func149,Tryz.ntmps149
 go_wp2_with fail
 refine(HSp.out _ _ H1.out).mono ?_
 rintro e w2 ⟨rfl,m2,k2,hr2,hq2⟩
 have HM2:=hide (HM1.out.trans m2 (by simp))
 have H2:=hide hr2
 have HS2:=hide (HS1.out.mod m2 (by simp;have:=HPb.out;have:=HVp.out;omega))
 have HJ2:=hide (HJ1.out.mod m2 (by have:=H1.out.blk.lt;omega) (by simp))
 have HQ2:=hide hq2
 clear m2 hr2 hq2 y0 y1 u1 lp HM1 H1 HS1 HJ1 a1
 go_wp2_with fail
 refine(HNx.out _ _ H2.out).mono ?_
 rintro e w3 ⟨rfl,m3,hr3⟩
 have HM3:=hide (HM2.out.trans m3 (by simp))
 have H3:=hide hr3
 have HS3:=hide (HS2.out.mod m3 (by simp))
 have HJ3:=hide (HJ2.out.mod m3 (by have:=H2.out.blk.lt;omega) (by simp))
 clear m3 hr3 HM2 H2 HS2 HJ2
 by_cases hend:(rst s k2).head? =some 93
 ·obtain⟨t,ht⟩:∃t,rst s k2=93 ::t:=by
   cases hq:rst s k2 with
   | nil=>rw[hq]at hend;cases hend
   | cons c t=>rw[hq]at hend;cases hend;exact⟨t,rfl⟩
  obtain⟨hk2,hkc,hkt⟩:=rst_cons ht
  have HE:Hid (jlist (jvalue n) false (rst s (k+1))=.ok ([],[]) (rst s (k2+1))):=hide (by
   unfold jlist
   simp only
   rw[←HQ2.out,if_pos (by rw[hend];rfl),ht,hkt]
   rfl)
  have a1:IntKind.i64.wrap ((k2:Int)+1)=(k2:Int)+1:=IntWalk.i64_in _ (by omega)
  have HK2:=hide hk2
  rw[hend]
  have e0:((((some (93:UInt8)).getD 0).toNat:Nat):Int)=93:=rfl
  rw[e0]
  have y0:w3.cell? ⟨p,0,none⟩=some (.string s):=H3.out.blk.cell 0
  have y1:w3.cell? ⟨p,1,none⟩=some (.int .i64 (k2:Nat)):=H3.out.blk.cell 1
  have u1:w3.frozen? ⟨p,1,none⟩=false:=H3.out.blk.frozen 1
  have lp:=H3.out.blk.lt
  clear hend ht hkc hkt hk2
  go_wp2_with fail
  have m4:Mod [p] w3 (w3.setCell ⟨p,1,none⟩ (.int .i64 ((k2:Int)+1))):=(Mod.refl [p] w3).setCell (.inl (by simp)) _
  have hs4:=HS3.out.mod m4 (by simp;have:=HPb.out;have:=HVp.out;omega)
  obtain⟨j1,j2⟩:=hs4.jin (Nat.zero_le _) (Nat.zero_le _)
  refine⟨rfl,_,results_none rfl _ _ _,?_⟩
  exact MP.ok HE.out (HM3.out.trans m4 (by simp)) (H3.out.step HK2.out) rfl hs4.v rfl rfl j1 (fun g hg=>by have:=j2 g hg;have hb:=HBs.out;exact⟨by omega,this.2⟩)
 ·have hb:¬((((rst s k2).head?.getD 0).toNat:Nat):Int)=93:=by
   intro e
   apply hend
   cases hq:rst s k2 with
   | nil=>rw[hq]at e;simp at e
   | cons c t=>
    rw[hq]at e
    simp only[List.head?_cons,Option.getD_some]at e
    have:c=93:=UInt8.toNat_inj.1 (by show c.toNat=93;omega)
    rw[this];rfl
  have HQ3:Hid (jlist (jvalue n) false (rst s (k+1))=jmanyT (jvalue n) false (rst s k2)):=hide (by
   unfold jlist
   simp only
   rw[←HQ2.out,if_neg (by intro e;exact hend (e.trans rfl))])
  obtain⟨hb0,hhb⟩:∃b:Nat,((rst s k2).head?.getD 0).toNat=b:=⟨_,rfl⟩
  rw[hhb]at hb ⊢
  have g0:((hb0:Int)==93)=false:=by rw[beq_eq_false_iff_ne];exact hb
  have g0':(hb0==93)=false:=by rw[beq_eq_false_iff_ne];omega
  clear hend hb hhb
  go_wp2_with fail
  clear g0 g0'
  go_loopw [] (fun wr=>∃(j c d:Nat) (A B:Option Addr) (l:List JN) (ks:List (List UInt8)),l.length≤j∧ks.length≤j∧Hid (Mod [p,vb] w wr)∧Hid (Rd wr p s j)∧Hid (MS wr base vb 5 A c l B d (ks.map tob))∧Hid (JVars p wr)∧Hid (jlist (jvalue n) false (rst s (k+1))=(jmanyT (jvalue n) false (rst s j)).bind fun y r=> .ok (JN.vs l++ y.1,ks++ y.2) r)) (fun wr=>s.size - atOf p wr)
  case atStart=>exact⟨k2,0,0,none,none,[],[],by simp,by simp,HM3,H3,HS3,HJ3,hide (by rw[HQ3.out];cases jmanyT (jvalue n) false (rst s k2) <;> rfl)⟩
  case round=>
   obtain⟨j,c,d,A,B,l,ks,hlj,hkj,hm,hr,hms,hjv,hq⟩:=hrel
   obtain⟨kb,hkb⟩:∃kb,ks.map tob=kb:=⟨_,rfl⟩
   rw[hkb]at hms
   have hkl:kb.length≤j:=by rw[←hkb,List.length_map];exact hkj
   have HKb:=hide hkb
   have HKl:Hid (kb.length≤1000000):=hide (by have:=hr.out.le;omega)
   have hjs:=hr.out.le
   clear hkb
   have q0:wr.cell? ⟨vb,0,none⟩=some (.int .i64 5):=hms.out.v.cell 0
   clear HM3 H3 HS3 HJ3
   go_wp2_with fail
   have HLl:Hid (l.length≤1000000):=hide (by have:=hr.out.le;omega)
   have HM9:=hm
   have HS9:=hms
   have H9:=hr
   obtain⟨kv,hkv⟩:∃kv,j=kv:=⟨_,rfl⟩
   have HEQ:Hid (jlist (jvalue n) false (rst s (k+1))=((jvalue n) (rst s kv)).bind fun v r=>(jtake (fun c=>c==44 || c==93) r).bind fun c r=>if(c==93)=true then .ok (JN.vs l++ [v],ks) r else(jmanyT (jvalue n) false r).bind fun y r=> .ok (JN.vs l++ (v ::y.1),ks++ y.2) r):=hide (by
    rw[hq.out,congrFun (jmanyT_eq HGd.out false) (rst s j),←hkv]
    exact mstep_f _ _ _ _)
   have HA:Hid (atOf p wr=j):=hide (by unfold atOf;rw[hr.out.blk.cell 1];rfl)
   have HKv:Hid (kv≤s.size):=hide (by rw[←hkv];exact hr.out.le)
   have HKl9:=HKl
   have HKb9:Hid (kb=ks.map tob):=hide HKb.out.symm
   have HKj9:Hid (j≤kv):=hide (by omega)
   have HKlen:Hid (ks.length≤j):=hide hkj
   rw[hkv]at H9
   clear hm hms hr hjv hq
   have HMd:=hide HM9.out.drew
   have HSd:=hide (HS9.out.mod ((Mod.refl [] wr).drew) (by simp))
   have Hd:=hide (H9.out.mod ((Mod.refl [] wr).drew) (by simp))
   have a2:IntKind.i64.wrap ((8:Int) - n+1)=9 - n:=by rw[IntWalk.i64_in _ (by omega)];omega
   go_cut [60] (fun v wx=>∃(k7 c':Nat) (A':Option Addr) (x:JN),Hid (jvalue n (rst s kv)=.ok x.v (rst s k7))∧Hid (Mod [p,vb] w wx)∧Hid (Rd wx p s k7)∧Hid (MS wx base vb 5 A' c' (l++ [x]) B d kb))
   case first=>
    have q3:wr.drew.cell? ⟨vb,3,none⟩=some (.slice A l.length c):=HSd.out.v.cell 3
    have q3w:wr.cell? ⟨vb,3,none⟩=some (.slice A l.length c):=HS9.out.v.cell 3
    have lw:=HS9.out.v.lt
    have q3x:(wr.alloc (.cells zcs 43)).cell? ⟨vb,3,none⟩=some (.slice A l.length c):=(HS9.out.v.alloc _).cell 3
    unfold zcs at q3x
    clear HM9 HS9 H9
    refine wp_region_held_drew (S:=fun _=>True) (by kernel_rfl) trivial (fun _=> ?_)
    refine take_dst (i:=0) (v:= ?_) 50 rfl rfl (by kernel_rfl) (by kernel_rfl) (by kernel_rfl) (fun _ _ _ h=>h) (Or.inl ⟨by rfl,?_⟩) trivial ?_
    rotate_left
    ·intro wq hSw
     go_simp
     first | done | (with_reducible rfl)
    simp only[pu]
    refine take_dst (i:=1) (v:= ?_) 51 rfl rfl (by kernel_rfl) (by kernel_rfl) (by kernel_rfl) (fun _ _ _ h=>h) (Or.inl ⟨by rfl,?_⟩) trivial ?_
    rotate_left
    ·intro wq hSw
     go_simp
     first | done | (with_reducible rfl)
    simp only[pu]
    refine take_dst (i:=2) (v:= ?_) 52 rfl rfl (by kernel_rfl) (by kernel_rfl) (by kernel_rfl) (fun _ _ _ h=>h) (Or.inl ⟨by rfl,?_⟩) trivial ?_
    rotate_left
    ·intro wq hSw
     go_simp
     first | done | (with_reducible rfl)
    simp only[pu]
    refine take_dst (i:=4) (v:= ?_) 54 rfl rfl (by kernel_rfl) (by kernel_rfl) (by kernel_rfl) (fun _ _ _ h=>h) (Or.inl ⟨by rfl,?_⟩) trivial ?_
    rotate_left
    ·intro wq hSw
     go_simp
     first | done | (with_reducible rfl)
    simp only[pu]
    refine take_dst (i:=5) (v:= ?_) 55 rfl rfl (by kernel_rfl) (by kernel_rfl) (by kernel_rfl) (fun _ _ _ h=>h) (Or.inl ⟨by rfl,?_⟩) trivial ?_
    rotate_left
    ·intro wq hSw
     go_simp
     first | done | (with_reducible rfl)
    simp only[pu]
    refine take_dst (i:=6) (v:= ?_) 56 rfl rfl (by kernel_rfl) (by kernel_rfl) (by kernel_rfl) (fun _ _ _ h=>h) (Or.inl ⟨by rfl,?_⟩) trivial ?_
    rotate_left
    ·intro wq hSw
     go_simp
     first | done | (with_reducible rfl)
    simp only[pu]
    refine wpAnyH_ready (rs:= [3,7,9]) (by kernel_rfl) (by simp) ?_
    refine AllReadyH.cons rfl (fun K hK=> ?_) (AllReadyH.cons rfl (fun K hK=> ?_) (AllReadyH.cons rfl (fun K hK=> ?_) AllReadyH.nil))
    ·go_simp
     refine hK.out _ _ trivial (fun _=> ?_)
     clear hK K
     try simp only[pu]
     refine take_dst (i:=8) (v:= ?_) 58 rfl rfl (by kernel_rfl) (by kernel_rfl) (by kernel_rfl) (fun _ _ _ h=>h) (Or.inl ⟨by rfl,?_⟩) trivial ?_
     rotate_left
     ·intro wq hSw
      go_simp
      first | done | (with_reducible rfl)
     simp only[pu]
     refine wpAnyH_ready (rs:= [7,9]) (by kernel_rfl) (by simp) ?_
     refine AllReadyH.cons rfl (fun K hK=> ?_) (AllReadyH.cons rfl (fun K hK=> ?_) AllReadyH.nil)
     ·go_simp
      have hjv1:JVars p wr.drew:=HJ0.out.mod HMd.out (by have:=HPb.out;have:=HBs.out;omega) (by simp;have:=HVp.out;omega)
      refine(HVl.out _ _ _ _ Hd.out hjv1).mono ?_
      rintro e w7 ⟨m7,hp⟩
      have HMc1:=hide (HMd.out.trans m7 (by simp))
      have HSc1:=hide (HSd.out.mod m7 (by simp;have:=HPb.out;have:=HVp.out;omega))
      cases hx:jvalue n (rst s kv)with
      | er r=>
       rw[hx]at hp
       obtain⟨k7,rfl,h1,h2⟩:=hp
       have HE:Hid (jlist (jvalue n) false (rst s (k+1))=.er r):=hide (by rw[HEQ.out,hx];rfl)
       clear m7 hx hK
       go_wp2_with fail
       rename_i heq
       cases heq
       exact⟨rfl,MP.er HE.out HMc1.out h1 h2⟩
      | ok jv r=>
       rw[hx]at hp
       obtain⟨k7,u,rfl,⟨x,rfl,rfl,hxi,hxf⟩,h1,h2⟩:=hp
       obtain⟨c0,c1,c2,c3,n3,d3,c4,n4,d4,hcx⟩:=cells5 x
       have HCx:=hide hcx
       rw[hcx]
       clear hcx
       have HX:Hid (jvalue n (rst s kv)=.ok x.v (rst s k7)):=hide (by rw[hx,h2])
       have Hc1:=hide h1
       have HXi1:=hide hxi
       have HXf:Hid (∀g∈JFoot x,base≤g∧(Value.slice A l.length c).ownBlock≠some g∧(Value.slice B kb.length d).ownBlock≠some g):=hide (fun g hg=>by
        have h3:=(hxf g hg).1
        have h4:=HMd.out.size
        have h5:=HBs.out
        refine⟨by omega,fun e=> ?_,fun e=> ?_⟩
        ·have:=(HSd.out.lo.lt g e).2;omega
        ·have:=(HSd.out.ko.lt g e).2;omega)
       have HF1:Hid (∀g∈JFoot x,g < w7.heap.size):=hide (fun g hg=>(hxf g hg).2)
       clear m7 hx h1 h2 hxi hxf hjv1
       refine hK.out _ _ trivial (fun _=> ?_)
       clear hK K
       try simp only[pu]
       refine wpAnyH_ready (rs:= [9]) (by kernel_rfl) (by simp) ?_
       refine AllReadyH.cons rfl (fun K hK=> ?_) AllReadyH.nil
       go_simp
       refine hK.out _ _ trivial (fun _=> ?_)
       clear hK K
       try simp only[pu]
       have HMa2:=hide (HMc1.out.alloc (.cells zcs 43))
       have HSa2:=hide (HSc1.out.mod ((Mod.refl [] w7).alloc (.cells zcs 43)) (by simp))
       have Ha2:=hide (Hc1.out.mod ((Mod.refl [] w7).alloc (.cells zcs 43)) (by simp))
       have HZ2:=hide (Blk.new w7 43 zcs)
       have qa2:=HSc1.out.v.lt
       have qb2:(w7.alloc (.cells zcs 43)).cell? ⟨vb,3,none⟩=some (.slice A l.length c):=HSa2.out.v.cell 3
       unfold zcs at qb2
       have HX2:=hide (JIn.new ((Mod.refl [] w7).alloc (.cells zcs 43)) HXi1.out)
       have HF2:Hid (∀g∈JFoot x,g < (w7.alloc (.cells zcs 43)).heap.size):=hide (fun g hg=>Nat.lt_of_lt_of_le (HF1.out g hg) ((Mod.refl [] w7).alloc (.cells zcs 43)).size)
       obtain⟨g',c',w8,hrun,hv8,hgv,⟨cur,hcb,hcs⟩,hfin⟩:=HSa2.out.val (W:=w) HVb.out (by have:=HMa2.out.size;have:=HBs.out;omega) HLl.out x HX2.out (fun g hg=>⟨(HXf.out g hg).1,HF2.out g hg,(HXf.out g hg).2⟩) (w7.heap.size) HZ2.out
       have HRun:=hide hrun
       have HFin:=hide hfin
       have q8:w8.cell? ⟨vb,3,none⟩=some (.slice A l.length c):=hv8.cell 3
       have f8:w8.frozen? ⟨vb,3,none⟩=false:=hv8.frozen 3
       have l8:=hv8.lt
       have hvg:¬vb=g':=fun e=>hgv e.symm
       have lg:=hcb.lt
       have hll:((l.length:Nat):Int) < (l.length:Int)+1:=by omega
       have b0:∃u,w8.cell? ⟨g',l.length * 5,none⟩=some u:=⟨_,(hcb.cell _).trans (Array.getElem?_eq_getElem (by omega))⟩
       obtain⟨u0,b0⟩:=b0
       have e0:w8.frozen? ⟨g',l.length * 5,none⟩=false:=hcb.frozen _
       have b1:∃u,w8.cell? ⟨g',l.length * 5+1,none⟩=some u:=⟨_,(hcb.cell _).trans (Array.getElem?_eq_getElem (by omega))⟩
       obtain⟨u1,b1⟩:=b1
       have e1:w8.frozen? ⟨g',l.length * 5+1,none⟩=false:=hcb.frozen _
       have b2:∃u,w8.cell? ⟨g',l.length * 5+2,none⟩=some u:=⟨_,(hcb.cell _).trans (Array.getElem?_eq_getElem (by omega))⟩
       obtain⟨u2,b2⟩:=b2
       have e2:w8.frozen? ⟨g',l.length * 5+2,none⟩=false:=hcb.frozen _
       have b3:∃u,w8.cell? ⟨g',l.length * 5+3,none⟩=some u:=⟨_,(hcb.cell _).trans (Array.getElem?_eq_getElem (by omega))⟩
       obtain⟨u3,b3⟩:=b3
       have e3:w8.frozen? ⟨g',l.length * 5+3,none⟩=false:=hcb.frozen _
       have b4:∃u,w8.cell? ⟨g',l.length * 5+4,none⟩=some u:=⟨_,(hcb.cell _).trans (Array.getElem?_eq_getElem (by omega))⟩
       obtain⟨u4,b4⟩:=b4
       have e4:w8.frozen? ⟨g',l.length * 5+4,none⟩=false:=hcb.frozen _
       clear hrun hfin hv8 hcb hcs
       refine wpAnyH_ready (rs:= [10]) (by kernel_rfl) (by simp) ?_
       refine AllReadyH.cons rfl (fun K hK=> ?_) AllReadyH.nil
       refine step_append_runL rfl (.tmp 53) (.tmp 59) 40 40 rfl (.slice A l.length c) (.slice (some ⟨w7.heap.size,0,none⟩) 1 1) (by simp[Act.eval]) (by simp[Act.eval]) HRun.out ?_
       refine hK.out _ _ trivial (fun _=> ?_)
       clear hK K
       try simp only[pu]
       refine take_dst (i:=13) (v:= ?_) 62 rfl rfl (by kernel_rfl) (by kernel_rfl) (by kernel_rfl) (fun _ _ _ h=>h) (Or.inl ⟨by rfl,?_⟩) trivial ?_
       rotate_left
       ·intro wq hSw
        go_simp
        first | done | (with_reducible rfl)
       simp only[pu]
       refine take_dst (i:=14) (v:= ?_) 63 rfl rfl (by kernel_rfl) (by kernel_rfl) (by kernel_rfl) (fun _ _ _ h=>h) (Or.inl ⟨by rfl,?_⟩) trivial ?_
       rotate_left
       ·intro wq hSw
        go_simp
        first | done | (with_reducible rfl)
       simp only[pu]
       refine take_dst (i:=11) (v:= ?_) 61 rfl rfl (by kernel_rfl) (by kernel_rfl) (by kernel_rfl) (fun _ _ _ h=>h) (Or.inl ⟨by rfl,?_⟩) trivial ?_
       rotate_left
       ·intro wq hSw
        go_simp
        first | done | (with_reducible rfl)
       simp only[pu]
       refine wpAnyH_ready (rs:= [12,15]) (by kernel_rfl) (by simp) ?_
       refine AllReadyH.cons rfl (fun K hK=> ?_) (AllReadyH.cons rfl (fun K hK=> ?_) AllReadyH.nil)
       ·go_simp
        refine hK.out _ _ trivial (fun _=> ?_)
        clear hK K
        try simp only[pu]
        refine wpAnyH_ready (rs:= [15]) (by kernel_rfl) (by simp) ?_
        refine AllReadyH.cons rfl (fun K hK=> ?_) AllReadyH.nil
        go_simp
        refine hK.out _ _ trivial (fun _=> ?_)
        clear hK K
        try simp only[pu]
        refine wpAnyH_done (by kernel_rfl) ?_ _
        go_wp2_with fail
        go_meet
        obtain⟨hms9,hmod9,hblk9⟩:=HFin.out _ (.inl (by rw[HCx.out]))
        exact⟨k7,c',some ⟨g',0,none⟩,x,HX,hide (hmod9 _ HMa2.out (by have:=HBs.out;omega) (by simp)),hide ⟨hblk9 p _ _ HPb.out (by have:=HVp.out;omega) Ha2.out.blk,Ha2.out.le,Ha2.out.small⟩,hide hms9⟩
       ·go_simp
        refine hK.out _ _ trivial (fun _=> ?_)
        clear hK K
        try simp only[pu]
        refine wpAnyH_ready (rs:= [12]) (by kernel_rfl) (by simp) ?_
        refine AllReadyH.cons rfl (fun K hK=> ?_) AllReadyH.nil
        go_simp
        refine hK.out _ _ trivial (fun _=> ?_)
        clear hK K
        try simp only[pu]
        refine wpAnyH_done (by kernel_rfl) ?_ _
        go_wp2_with fail
        go_meet
        obtain⟨hms9,hmod9,hblk9⟩:=HFin.out _ (.inr (by rw[HCx.out]))
        exact⟨k7,c',some ⟨g',0,none⟩,x,HX,hide (hmod9 _ HMa2.out (by have:=HBs.out;omega) (by simp)),hide ⟨hblk9 p _ _ HPb.out (by have:=HVp.out;omega) Ha2.out.blk,Ha2.out.le,Ha2.out.small⟩,hide hms9⟩
     ·go_simp
      refine hK.out _ _ trivial (fun _=> ?_)
      clear hK K
      try simp only[pu]
      have HMa3:=hide (HMd.out.alloc (.cells zcs 43))
      have HSa3:=hide (HSd.out.mod ((Mod.refl [] wr.drew).alloc (.cells zcs 43)) (by simp))
      have Ha3:=hide (Hd.out.mod ((Mod.refl [] wr.drew).alloc (.cells zcs 43)) (by simp))
      have HZ3:=hide (Blk.new wr.drew 43 zcs)
      have qa3:=HSd.out.v.lt
      have qb3:(wr.drew.alloc (.cells zcs 43)).cell? ⟨vb,3,none⟩=some (.slice A l.length c):=HSa3.out.v.cell 3
      unfold zcs at qb3
      refine wpAnyH_ready (rs:= [7]) (by kernel_rfl) (by simp) ?_
      refine AllReadyH.cons rfl (fun K hK=> ?_) AllReadyH.nil
      go_simp
      have hjv4:JVars p (wr.drew.alloc (.cells zcs 43)):=HJ0.out.mod HMa3.out (by have:=HPb.out;have:=HBs.out;omega) (by simp;have:=HVp.out;omega)
      refine(HVl.out _ _ _ _ Ha3.out hjv4).mono ?_
      rintro e w7 ⟨m7,hp⟩
      have HMc4:=hide (HMa3.out.trans m7 (by simp))
      have HSc4:=hide (HSa3.out.mod m7 (by simp;have:=HPb.out;have:=HVp.out;omega))
      have HZc4:=hide (m7.blk HZ3.out (by have:=Ha3.out.blk.lt;have:=HBs.out;have:=HPb.out;have:=HMa3.out.size;simp;simp at *;omega))
      cases hx:jvalue n (rst s kv)with
      | er r=>
       rw[hx]at hp
       obtain⟨k7,rfl,h1,h2⟩:=hp
       have HE:Hid (jlist (jvalue n) false (rst s (k+1))=.er r):=hide (by rw[HEQ.out,hx];rfl)
       clear m7 hx hK
       go_wp2_with fail
       rename_i heq
       cases heq
       exact⟨rfl,MP.er HE.out HMc4.out h1 h2⟩
      | ok jv r=>
       rw[hx]at hp
       obtain⟨k7,u,rfl,⟨x,rfl,rfl,hxi,hxf⟩,h1,h2⟩:=hp
       obtain⟨c0,c1,c2,c3,n3,d3,c4,n4,d4,hcx⟩:=cells5 x
       have HCx:=hide hcx
       rw[hcx]
       clear hcx
       have HX:Hid (jvalue n (rst s kv)=.ok x.v (rst s k7)):=hide (by rw[hx,h2])
       have Hc4:=hide h1
       have HXi4:=hide hxi
       have HXf:Hid (∀g∈JFoot x,base≤g∧(Value.slice A l.length c).ownBlock≠some g∧(Value.slice B kb.length d).ownBlock≠some g):=hide (fun g hg=>by
        have h3:=(hxf g hg).1
        have h4:=HMa3.out.size
        have h5:=HBs.out
        refine⟨by omega,fun e=> ?_,fun e=> ?_⟩
        ·have:=(HSa3.out.lo.lt g e).2;omega
        ·have:=(HSa3.out.ko.lt g e).2;omega)
       have HF4:Hid (∀g∈JFoot x,g < w7.heap.size):=hide (fun g hg=>(hxf g hg).2)
       clear m7 hx h1 h2 hxi hxf hjv4
       refine hK.out _ _ trivial (fun _=> ?_)
       clear hK K
       try simp only[pu]
       obtain⟨g',c',w8,hrun,hv8,hgv,⟨cur,hcb,hcs⟩,hfin⟩:=HSc4.out.val (W:=w) HVb.out (by have:=HMc4.out.size;have:=HBs.out;omega) HLl.out x HXi4.out (fun g hg=>⟨(HXf.out g hg).1,HF4.out g hg,(HXf.out g hg).2⟩) (wr.drew.heap.size) HZc4.out
       have HRun:=hide hrun
       have HFin:=hide hfin
       have q8:w8.cell? ⟨vb,3,none⟩=some (.slice A l.length c):=hv8.cell 3
       have f8:w8.frozen? ⟨vb,3,none⟩=false:=hv8.frozen 3
       have l8:=hv8.lt
       have hvg:¬vb=g':=fun e=>hgv e.symm
       have lg:=hcb.lt
       have hll:((l.length:Nat):Int) < (l.length:Int)+1:=by omega
       have b0:∃u,w8.cell? ⟨g',l.length * 5,none⟩=some u:=⟨_,(hcb.cell _).trans (Array.getElem?_eq_getElem (by omega))⟩
       obtain⟨u0,b0⟩:=b0
       have e0:w8.frozen? ⟨g',l.length * 5,none⟩=false:=hcb.frozen _
       have b1:∃u,w8.cell? ⟨g',l.length * 5+1,none⟩=some u:=⟨_,(hcb.cell _).trans (Array.getElem?_eq_getElem (by omega))⟩
       obtain⟨u1,b1⟩:=b1
       have e1:w8.frozen? ⟨g',l.length * 5+1,none⟩=false:=hcb.frozen _
       have b2:∃u,w8.cell? ⟨g',l.length * 5+2,none⟩=some u:=⟨_,(hcb.cell _).trans (Array.getElem?_eq_getElem (by omega))⟩
       obtain⟨u2,b2⟩:=b2
       have e2:w8.frozen? ⟨g',l.length * 5+2,none⟩=false:=hcb.frozen _
       have b3:∃u,w8.cell? ⟨g',l.length * 5+3,none⟩=some u:=⟨_,(hcb.cell _).trans (Array.getElem?_eq_getElem (by omega))⟩
       obtain⟨u3,b3⟩:=b3
       have e3:w8.frozen? ⟨g',l.length * 5+3,none⟩=false:=hcb.frozen _
       have b4:∃u,w8.cell? ⟨g',l.length * 5+4,none⟩=some u:=⟨_,(hcb.cell _).trans (Array.getElem?_eq_getElem (by omega))⟩
       obtain⟨u4,b4⟩:=b4
       have e4:w8.frozen? ⟨g',l.length * 5+4,none⟩=false:=hcb.frozen _
       clear hrun hfin hv8 hcb hcs
       refine wpAnyH_ready (rs:= [10]) (by kernel_rfl) (by simp) ?_
       refine AllReadyH.cons rfl (fun K hK=> ?_) AllReadyH.nil
       refine step_append_runL rfl (.tmp 53) (.tmp 59) 40 40 rfl (.slice A l.length c) (.slice (some ⟨wr.drew.heap.size,0,none⟩) 1 1) (by simp[Act.eval]) (by simp[Act.eval]) HRun.out ?_
       refine hK.out _ _ trivial (fun _=> ?_)
       clear hK K
       try simp only[pu]
       refine take_dst (i:=13) (v:= ?_) 62 rfl rfl (by kernel_rfl) (by kernel_rfl) (by kernel_rfl) (fun _ _ _ h=>h) (Or.inl ⟨by rfl,?_⟩) trivial ?_
       rotate_left
       ·intro wq hSw
        go_simp
        first | done | (with_reducible rfl)
       simp only[pu]
       refine take_dst (i:=14) (v:= ?_) 63 rfl rfl (by kernel_rfl) (by kernel_rfl) (by kernel_rfl) (fun _ _ _ h=>h) (Or.inl ⟨by rfl,?_⟩) trivial ?_
       rotate_left
       ·intro wq hSw
        go_simp
        first | done | (with_reducible rfl)
       simp only[pu]
       refine take_dst (i:=11) (v:= ?_) 61 rfl rfl (by kernel_rfl) (by kernel_rfl) (by kernel_rfl) (fun _ _ _ h=>h) (Or.inl ⟨by rfl,?_⟩) trivial ?_
       rotate_left
       ·intro wq hSw
        go_simp
        first | done | (with_reducible rfl)
       simp only[pu]
       refine wpAnyH_ready (rs:= [12,15]) (by kernel_rfl) (by simp) ?_
       refine AllReadyH.cons rfl (fun K hK=> ?_) (AllReadyH.cons rfl (fun K hK=> ?_) AllReadyH.nil)
       ·go_simp
        refine hK.out _ _ trivial (fun _=> ?_)
        clear hK K
        try simp only[pu]
        refine wpAnyH_ready (rs:= [15]) (by kernel_rfl) (by simp) ?_
        refine AllReadyH.cons rfl (fun K hK=> ?_) AllReadyH.nil
        go_simp
        refine hK.out _ _ trivial (fun _=> ?_)
        clear hK K
        try simp only[pu]
        refine wpAnyH_done (by kernel_rfl) ?_ _
        go_wp2_with fail
        go_meet
        obtain⟨hms9,hmod9,hblk9⟩:=HFin.out _ (.inl (by rw[HCx.out]))
        exact⟨k7,c',some ⟨g',0,none⟩,x,HX,hide (hmod9 _ HMc4.out (by have:=HBs.out;omega) (by simp)),hide ⟨hblk9 p _ _ HPb.out (by have:=HVp.out;omega) Hc4.out.blk,Hc4.out.le,Hc4.out.small⟩,hide hms9⟩
       ·go_simp
        refine hK.out _ _ trivial (fun _=> ?_)
        clear hK K
        try simp only[pu]
        refine wpAnyH_ready (rs:= [12]) (by kernel_rfl) (by simp) ?_
        refine AllReadyH.cons rfl (fun K hK=> ?_) AllReadyH.nil
        go_simp
        refine hK.out _ _ trivial (fun _=> ?_)
        clear hK K
        try simp only[pu]
        refine wpAnyH_done (by kernel_rfl) ?_ _
        go_wp2_with fail
        go_meet
        obtain⟨hms9,hmod9,hblk9⟩:=HFin.out _ (.inr (by rw[HCx.out]))
        exact⟨k7,c',some ⟨g',0,none⟩,x,HX,hide (hmod9 _ HMc4.out (by have:=HBs.out;omega) (by simp)),hide ⟨hblk9 p _ _ HPb.out (by have:=HVp.out;omega) Hc4.out.blk,Hc4.out.le,Hc4.out.small⟩,hide hms9⟩
    ·go_simp
     have hjv5:JVars p wr.drew:=HJ0.out.mod HMd.out (by have:=HPb.out;have:=HBs.out;omega) (by simp;have:=HVp.out;omega)
     refine(HVl.out _ _ _ _ Hd.out hjv5).mono ?_
     rintro e w7 ⟨m7,hp⟩
     have HMc5:=hide (HMd.out.trans m7 (by simp))
     have HSc5:=hide (HSd.out.mod m7 (by simp;have:=HPb.out;have:=HVp.out;omega))
     cases hx:jvalue n (rst s kv)with
     | er r=>
      rw[hx]at hp
      obtain⟨k7,rfl,h1,h2⟩:=hp
      have HE:Hid (jlist (jvalue n) false (rst s (k+1))=.er r):=hide (by rw[HEQ.out,hx];rfl)
      clear m7 hx hK
      go_wp2_with fail
      rename_i heq
      cases heq
      exact⟨rfl,MP.er HE.out HMc5.out h1 h2⟩
     | ok jv r=>
      rw[hx]at hp
      obtain⟨k7,u,rfl,⟨x,rfl,rfl,hxi,hxf⟩,h1,h2⟩:=hp
      obtain⟨c0,c1,c2,c3,n3,d3,c4,n4,d4,hcx⟩:=cells5 x
      have HCx:=hide hcx
      rw[hcx]
      clear hcx
      have HX:Hid (jvalue n (rst s kv)=.ok x.v (rst s k7)):=hide (by rw[hx,h2])
      have Hc5:=hide h1
      have HXi5:=hide hxi
      have HXf:Hid (∀g∈JFoot x,base≤g∧(Value.slice A l.length c).ownBlock≠some g∧(Value.slice B kb.length d).ownBlock≠some g):=hide (fun g hg=>by
       have h3:=(hxf g hg).1
       have h4:=HMd.out.size
       have h5:=HBs.out
       refine⟨by omega,fun e=> ?_,fun e=> ?_⟩
       ·have:=(HSd.out.lo.lt g e).2;omega
       ·have:=(HSd.out.ko.lt g e).2;omega)
      have HF5:Hid (∀g∈JFoot x,g < w7.heap.size):=hide (fun g hg=>(hxf g hg).2)
      clear m7 hx h1 h2 hxi hxf hjv5
      refine hK.out _ _ trivial (fun _=> ?_)
      clear hK K
      try simp only[pu]
      have qv5:w7.cell? ⟨vb,3,none⟩=some (.slice A l.length c):=HSc5.out.v.cell 3
      refine wpAnyH_ready (rs:= [3,9]) (by kernel_rfl) (by simp) ?_
      refine AllReadyH.cons rfl (fun K hK=> ?_) (AllReadyH.cons rfl (fun K hK=> ?_) AllReadyH.nil)
      ·go_simp
       refine hK.out _ _ trivial (fun _=> ?_)
       clear hK K
       try simp only[pu]
       refine take_dst (i:=8) (v:= ?_) 58 rfl rfl (by kernel_rfl) (by kernel_rfl) (by kernel_rfl) (fun _ _ _ h=>h) (Or.inl ⟨by rfl,?_⟩) trivial ?_
       rotate_left
       ·intro wq hSw
        go_simp
        first | done | (with_reducible rfl)
       simp only[pu]
       refine wpAnyH_ready (rs:= [9]) (by kernel_rfl) (by simp) ?_
       refine AllReadyH.cons rfl (fun K hK=> ?_) AllReadyH.nil
       go_simp
       refine hK.out _ _ trivial (fun _=> ?_)
       clear hK K
       try simp only[pu]
       have HMa6:=hide (HMc5.out.alloc (.cells zcs 43))
       have HSa6:=hide (HSc5.out.mod ((Mod.refl [] w7).alloc (.cells zcs 43)) (by simp))
       have Ha6:=hide (Hc5.out.mod ((Mod.refl [] w7).alloc (.cells zcs 43)) (by simp))
       have HZ6:=hide (Blk.new w7 43 zcs)
       have qa6:=HSc5.out.v.lt
       have qb6:(w7.alloc (.cells zcs 43)).cell? ⟨vb,3,none⟩=some (.slice A l.length c):=HSa6.out.v.cell 3
       unfold zcs at qb6
       have HX6:=hide (JIn.new ((Mod.refl [] w7).alloc (.cells zcs 43)) HXi5.out)
       have HF6:Hid (∀g∈JFoot x,g < (w7.alloc (.cells zcs 43)).heap.size):=hide (fun g hg=>Nat.lt_of_lt_of_le (HF5.out g hg) ((Mod.refl [] w7).alloc (.cells zcs 43)).size)
       obtain⟨g',c',w8,hrun,hv8,hgv,⟨cur,hcb,hcs⟩,hfin⟩:=HSa6.out.val (W:=w) HVb.out (by have:=HMa6.out.size;have:=HBs.out;omega) HLl.out x HX6.out (fun g hg=>⟨(HXf.out g hg).1,HF6.out g hg,(HXf.out g hg).2⟩) (w7.heap.size) HZ6.out
       have HRun:=hide hrun
       have HFin:=hide hfin
       have q8:w8.cell? ⟨vb,3,none⟩=some (.slice A l.length c):=hv8.cell 3
       have f8:w8.frozen? ⟨vb,3,none⟩=false:=hv8.frozen 3
       have l8:=hv8.lt
       have hvg:¬vb=g':=fun e=>hgv e.symm
       have lg:=hcb.lt
       have hll:((l.length:Nat):Int) < (l.length:Int)+1:=by omega
       have b0:∃u,w8.cell? ⟨g',l.length * 5,none⟩=some u:=⟨_,(hcb.cell _).trans (Array.getElem?_eq_getElem (by omega))⟩
       obtain⟨u0,b0⟩:=b0
       have e0:w8.frozen? ⟨g',l.length * 5,none⟩=false:=hcb.frozen _
       have b1:∃u,w8.cell? ⟨g',l.length * 5+1,none⟩=some u:=⟨_,(hcb.cell _).trans (Array.getElem?_eq_getElem (by omega))⟩
       obtain⟨u1,b1⟩:=b1
       have e1:w8.frozen? ⟨g',l.length * 5+1,none⟩=false:=hcb.frozen _
       have b2:∃u,w8.cell? ⟨g',l.length * 5+2,none⟩=some u:=⟨_,(hcb.cell _).trans (Array.getElem?_eq_getElem (by omega))⟩
       obtain⟨u2,b2⟩:=b2
       have e2:w8.frozen? ⟨g',l.length * 5+2,none⟩=false:=hcb.frozen _
       have b3:∃u,w8.cell? ⟨g',l.length * 5+3,none⟩=some u:=⟨_,(hcb.cell _).trans (Array.getElem?_eq_getElem (by omega))⟩
       obtain⟨u3,b3⟩:=b3
       have e3:w8.frozen? ⟨g',l.length * 5+3,none⟩=false:=hcb.frozen _
       have b4:∃u,w8.cell? ⟨g',l.length * 5+4,none⟩=some u:=⟨_,(hcb.cell _).trans (Array.getElem?_eq_getElem (by omega))⟩
       obtain⟨u4,b4⟩:=b4
       have e4:w8.frozen? ⟨g',l.length * 5+4,none⟩=false:=hcb.frozen _
       clear hrun hfin hv8 hcb hcs
       refine wpAnyH_ready (rs:= [10]) (by kernel_rfl) (by simp) ?_
       refine AllReadyH.cons rfl (fun K hK=> ?_) AllReadyH.nil
       refine step_append_runL rfl (.tmp 53) (.tmp 59) 40 40 rfl (.slice A l.length c) (.slice (some ⟨w7.heap.size,0,none⟩) 1 1) (by simp[Act.eval]) (by simp[Act.eval]) HRun.out ?_
       refine hK.out _ _ trivial (fun _=> ?_)
       clear hK K
       try simp only[pu]
       refine take_dst (i:=13) (v:= ?_) 62 rfl rfl (by kernel_rfl) (by kernel_rfl) (by kernel_rfl) (fun _ _ _ h=>h) (Or.inl ⟨by rfl,?_⟩) trivial ?_
       rotate_left
       ·intro wq hSw
        go_simp
        first | done | (with_reducible rfl)
       simp only[pu]
       refine take_dst (i:=14) (v:= ?_) 63 rfl rfl (by kernel_rfl) (by kernel_rfl) (by kernel_rfl) (fun _ _ _ h=>h) (Or.inl ⟨by rfl,?_⟩) trivial ?_
       rotate_left
       ·intro wq hSw
        go_simp
        first | done | (with_reducible rfl)
       simp only[pu]
       refine take_dst (i:=11) (v:= ?_) 61 rfl rfl (by kernel_rfl) (by kernel_rfl) (by kernel_rfl) (fun _ _ _ h=>h) (Or.inl ⟨by rfl,?_⟩) trivial ?_
       rotate_left
       ·intro wq hSw
        go_simp
        first | done | (with_reducible rfl)
       simp only[pu]
       refine wpAnyH_ready (rs:= [12,15]) (by kernel_rfl) (by simp) ?_
       refine AllReadyH.cons rfl (fun K hK=> ?_) (AllReadyH.cons rfl (fun K hK=> ?_) AllReadyH.nil)
       ·go_simp
        refine hK.out _ _ trivial (fun _=> ?_)
        clear hK K
        try simp only[pu]
        refine wpAnyH_ready (rs:= [15]) (by kernel_rfl) (by simp) ?_
        refine AllReadyH.cons rfl (fun K hK=> ?_) AllReadyH.nil
        go_simp
        refine hK.out _ _ trivial (fun _=> ?_)
        clear hK K
        try simp only[pu]
        refine wpAnyH_done (by kernel_rfl) ?_ _
        go_wp2_with fail
        go_meet
        obtain⟨hms9,hmod9,hblk9⟩:=HFin.out _ (.inl (by rw[HCx.out]))
        exact⟨k7,c',some ⟨g',0,none⟩,x,HX,hide (hmod9 _ HMa6.out (by have:=HBs.out;omega) (by simp)),hide ⟨hblk9 p _ _ HPb.out (by have:=HVp.out;omega) Ha6.out.blk,Ha6.out.le,Ha6.out.small⟩,hide hms9⟩
       ·go_simp
        refine hK.out _ _ trivial (fun _=> ?_)
        clear hK K
        try simp only[pu]
        refine wpAnyH_ready (rs:= [12]) (by kernel_rfl) (by simp) ?_
        refine AllReadyH.cons rfl (fun K hK=> ?_) AllReadyH.nil
        go_simp
        refine hK.out _ _ trivial (fun _=> ?_)
        clear hK K
        try simp only[pu]
        refine wpAnyH_done (by kernel_rfl) ?_ _
        go_wp2_with fail
        go_meet
        obtain⟨hms9,hmod9,hblk9⟩:=HFin.out _ (.inr (by rw[HCx.out]))
        exact⟨k7,c',some ⟨g',0,none⟩,x,HX,hide (hmod9 _ HMa6.out (by have:=HBs.out;omega) (by simp)),hide ⟨hblk9 p _ _ HPb.out (by have:=HVp.out;omega) Ha6.out.blk,Ha6.out.le,Ha6.out.small⟩,hide hms9⟩
      ·go_simp
       refine hK.out _ _ trivial (fun _=> ?_)
       clear hK K
       try simp only[pu]
       have HMa7:=hide (HMc5.out.alloc (.cells zcs 43))
       have HSa7:=hide (HSc5.out.mod ((Mod.refl [] w7).alloc (.cells zcs 43)) (by simp))
       have Ha7:=hide (Hc5.out.mod ((Mod.refl [] w7).alloc (.cells zcs 43)) (by simp))
       have HZ7:=hide (Blk.new w7 43 zcs)
       have qa7:=HSc5.out.v.lt
       have qb7:(w7.alloc (.cells zcs 43)).cell? ⟨vb,3,none⟩=some (.slice A l.length c):=HSa7.out.v.cell 3
       unfold zcs at qb7
       have HX7:=hide (JIn.new ((Mod.refl [] w7).alloc (.cells zcs 43)) HXi5.out)
       have HF7:Hid (∀g∈JFoot x,g < (w7.alloc (.cells zcs 43)).heap.size):=hide (fun g hg=>Nat.lt_of_lt_of_le (HF5.out g hg) ((Mod.refl [] w7).alloc (.cells zcs 43)).size)
       refine wpAnyH_ready (rs:= [3]) (by kernel_rfl) (by simp) ?_
       refine AllReadyH.cons rfl (fun K hK=> ?_) AllReadyH.nil
       go_simp
       refine hK.out _ _ trivial (fun _=> ?_)
       clear hK K
       try simp only[pu]
       refine take_dst (i:=8) (v:= ?_) 58 rfl rfl (by kernel_rfl) (by kernel_rfl) (by kernel_rfl) (fun _ _ _ h=>h) (Or.inl ⟨by rfl,?_⟩) trivial ?_
       rotate_left
       ·intro wq hSw
        go_simp
        first | done | (with_reducible rfl)
       simp only[pu]
       obtain⟨g',c',w8,hrun,hv8,hgv,⟨cur,hcb,hcs⟩,hfin⟩:=HSa7.out.val (W:=w) HVb.out (by have:=HMa7.out.size;have:=HBs.out;omega) HLl.out x HX7.out (fun g hg=>⟨(HXf.out g hg).1,HF7.out g hg,(HXf.out g hg).2⟩) (w7.heap.size) HZ7.out
       have HRun:=hide hrun
       have HFin:=hide hfin
       have q8:w8.cell? ⟨vb,3,none⟩=some (.slice A l.length c):=hv8.cell 3
       have f8:w8.frozen? ⟨vb,3,none⟩=false:=hv8.frozen 3
       have l8:=hv8.lt
       have hvg:¬vb=g':=fun e=>hgv e.symm
       have lg:=hcb.lt
       have hll:((l.length:Nat):Int) < (l.length:Int)+1:=by omega
       have b0:∃u,w8.cell? ⟨g',l.length * 5,none⟩=some u:=⟨_,(hcb.cell _).trans (Array.getElem?_eq_getElem (by omega))⟩
       obtain⟨u0,b0⟩:=b0
       have e0:w8.frozen? ⟨g',l.length * 5,none⟩=false:=hcb.frozen _
       have b1:∃u,w8.cell? ⟨g',l.length * 5+1,none⟩=some u:=⟨_,(hcb.cell _).trans (Array.getElem?_eq_getElem (by omega))⟩
       obtain⟨u1,b1⟩:=b1
       have e1:w8.frozen? ⟨g',l.length * 5+1,none⟩=false:=hcb.frozen _
       have b2:∃u,w8.cell? ⟨g',l.length * 5+2,none⟩=some u:=⟨_,(hcb.cell _).trans (Array.getElem?_eq_getElem (by omega))⟩
       obtain⟨u2,b2⟩:=b2
       have e2:w8.frozen? ⟨g',l.length * 5+2,none⟩=false:=hcb.frozen _
       have b3:∃u,w8.cell? ⟨g',l.length * 5+3,none⟩=some u:=⟨_,(hcb.cell _).trans (Array.getElem?_eq_getElem (by omega))⟩
       obtain⟨u3,b3⟩:=b3
       have e3:w8.frozen? ⟨g',l.length * 5+3,none⟩=false:=hcb.frozen _
       have b4:∃u,w8.cell? ⟨g',l.length * 5+4,none⟩=some u:=⟨_,(hcb.cell _).trans (Array.getElem?_eq_getElem (by omega))⟩
       obtain⟨u4,b4⟩:=b4
       have e4:w8.frozen? ⟨g',l.length * 5+4,none⟩=false:=hcb.frozen _
       clear hrun hfin hv8 hcb hcs
       refine wpAnyH_ready (rs:= [10]) (by kernel_rfl) (by simp) ?_
       refine AllReadyH.cons rfl (fun K hK=> ?_) AllReadyH.nil
       refine step_append_runL rfl (.tmp 53) (.tmp 59) 40 40 rfl (.slice A l.length c) (.slice (some ⟨w7.heap.size,0,none⟩) 1 1) (by simp[Act.eval]) (by simp[Act.eval]) HRun.out ?_
       refine hK.out _ _ trivial (fun _=> ?_)
       clear hK K
       try simp only[pu]
       refine take_dst (i:=13) (v:= ?_) 62 rfl rfl (by kernel_rfl) (by kernel_rfl) (by kernel_rfl) (fun _ _ _ h=>h) (Or.inl ⟨by rfl,?_⟩) trivial ?_
       rotate_left
       ·intro wq hSw
        go_simp
        first | done | (with_reducible rfl)
       simp only[pu]
       refine take_dst (i:=14) (v:= ?_) 63 rfl rfl (by kernel_rfl) (by kernel_rfl) (by kernel_rfl) (fun _ _ _ h=>h) (Or.inl ⟨by rfl,?_⟩) trivial ?_
       rotate_left
       ·intro wq hSw
        go_simp
        first | done | (with_reducible rfl)
       simp only[pu]
       refine take_dst (i:=11) (v:= ?_) 61 rfl rfl (by kernel_rfl) (by kernel_rfl) (by kernel_rfl) (fun _ _ _ h=>h) (Or.inl ⟨by rfl,?_⟩) trivial ?_
       rotate_left
       ·intro wq hSw
        go_simp
        first | done | (with_reducible rfl)
       simp only[pu]
       refine wpAnyH_ready (rs:= [12,15]) (by kernel_rfl) (by simp) ?_
       refine AllReadyH.cons rfl (fun K hK=> ?_) (AllReadyH.cons rfl (fun K hK=> ?_) AllReadyH.nil)
       ·go_simp
        refine hK.out _ _ trivial (fun _=> ?_)
        clear hK K
        try simp only[pu]
        refine wpAnyH_ready (rs:= [15]) (by kernel_rfl) (by simp) ?_
        refine AllReadyH.cons rfl (fun K hK=> ?_) AllReadyH.nil
        go_simp
        refine hK.out _ _ trivial (fun _=> ?_)
        clear hK K
        try simp only[pu]
        refine wpAnyH_done (by kernel_rfl) ?_ _
        go_wp2_with fail
        go_meet
        obtain⟨hms9,hmod9,hblk9⟩:=HFin.out _ (.inl (by rw[HCx.out]))
        exact⟨k7,c',some ⟨g',0,none⟩,x,HX,hide (hmod9 _ HMa7.out (by have:=HBs.out;omega) (by simp)),hide ⟨hblk9 p _ _ HPb.out (by have:=HVp.out;omega) Ha7.out.blk,Ha7.out.le,Ha7.out.small⟩,hide hms9⟩
       ·go_simp
        refine hK.out _ _ trivial (fun _=> ?_)
        clear hK K
        try simp only[pu]
        refine wpAnyH_ready (rs:= [12]) (by kernel_rfl) (by simp) ?_
        refine AllReadyH.cons rfl (fun K hK=> ?_) AllReadyH.nil
        go_simp
        refine hK.out _ _ trivial (fun _=> ?_)
        clear hK K
        try simp only[pu]
        refine wpAnyH_done (by kernel_rfl) ?_ _
        go_wp2_with fail
        go_meet
        obtain⟨hms9,hmod9,hblk9⟩:=HFin.out _ (.inr (by rw[HCx.out]))
        exact⟨k7,c',some ⟨g',0,none⟩,x,HX,hide (hmod9 _ HMa7.out (by have:=HBs.out;omega) (by simp)),hide ⟨hblk9 p _ _ HPb.out (by have:=HVp.out;omega) Ha7.out.blk,Ha7.out.le,Ha7.out.small⟩,hide hms9⟩
    ·go_simp
     refine hK.out _ _ trivial (fun _=> ?_)
     clear hK K
     try simp only[pu]
     have HMa8:=hide (HMd.out.alloc (.cells zcs 43))
     have HSa8:=hide (HSd.out.mod ((Mod.refl [] wr.drew).alloc (.cells zcs 43)) (by simp))
     have Ha8:=hide (Hd.out.mod ((Mod.refl [] wr.drew).alloc (.cells zcs 43)) (by simp))
     have HZ8:=hide (Blk.new wr.drew 43 zcs)
     have qa8:=HSd.out.v.lt
     have qb8:(wr.drew.alloc (.cells zcs 43)).cell? ⟨vb,3,none⟩=some (.slice A l.length c):=HSa8.out.v.cell 3
     unfold zcs at qb8
     refine wpAnyH_ready (rs:= [3,7]) (by kernel_rfl) (by simp) ?_
     refine AllReadyH.cons rfl (fun K hK=> ?_) (AllReadyH.cons rfl (fun K hK=> ?_) AllReadyH.nil)
     ·go_simp
      refine hK.out _ _ trivial (fun _=> ?_)
      clear hK K
      try simp only[pu]
      refine take_dst (i:=8) (v:= ?_) 58 rfl rfl (by kernel_rfl) (by kernel_rfl) (by kernel_rfl) (fun _ _ _ h=>h) (Or.inl ⟨by rfl,?_⟩) trivial ?_
      rotate_left
      ·intro wq hSw
       go_simp
       first | done | (with_reducible rfl)
      simp only[pu]
      refine wpAnyH_ready (rs:= [7]) (by kernel_rfl) (by simp) ?_
      refine AllReadyH.cons rfl (fun K hK=> ?_) AllReadyH.nil
      go_simp
      have hjv9:JVars p (wr.drew.alloc (.cells zcs 43)):=HJ0.out.mod HMa8.out (by have:=HPb.out;have:=HBs.out;omega) (by simp;have:=HVp.out;omega)
      refine(HVl.out _ _ _ _ Ha8.out hjv9).mono ?_
      rintro e w7 ⟨m7,hp⟩
      have HMc9:=hide (HMa8.out.trans m7 (by simp))
      have HSc9:=hide (HSa8.out.mod m7 (by simp;have:=HPb.out;have:=HVp.out;omega))
      have HZc9:=hide (m7.blk HZ8.out (by have:=Ha8.out.blk.lt;have:=HBs.out;have:=HPb.out;have:=HMa8.out.size;simp;simp at *;omega))
      cases hx:jvalue n (rst s kv)with
      | er r=>
       rw[hx]at hp
       obtain⟨k7,rfl,h1,h2⟩:=hp
       have HE:Hid (jlist (jvalue n) false (rst s (k+1))=.er r):=hide (by rw[HEQ.out,hx];rfl)
       clear m7 hx hK
       go_wp2_with fail
       rename_i heq
       cases heq
       exact⟨rfl,MP.er HE.out HMc9.out h1 h2⟩
      | ok jv r=>
       rw[hx]at hp
       obtain⟨k7,u,rfl,⟨x,rfl,rfl,hxi,hxf⟩,h1,h2⟩:=hp
       obtain⟨c0,c1,c2,c3,n3,d3,c4,n4,d4,hcx⟩:=cells5 x
       have HCx:=hide hcx
       rw[hcx]
       clear hcx
       have HX:Hid (jvalue n (rst s kv)=.ok x.v (rst s k7)):=hide (by rw[hx,h2])
       have Hc9:=hide h1
       have HXi9:=hide hxi
       have HXf:Hid (∀g∈JFoot x,base≤g∧(Value.slice A l.length c).ownBlock≠some g∧(Value.slice B kb.length d).ownBlock≠some g):=hide (fun g hg=>by
        have h3:=(hxf g hg).1
        have h4:=HMa8.out.size
        have h5:=HBs.out
        refine⟨by omega,fun e=> ?_,fun e=> ?_⟩
        ·have:=(HSa8.out.lo.lt g e).2;omega
        ·have:=(HSa8.out.ko.lt g e).2;omega)
       have HF9:Hid (∀g∈JFoot x,g < w7.heap.size):=hide (fun g hg=>(hxf g hg).2)
       clear m7 hx h1 h2 hxi hxf hjv9
       refine hK.out _ _ trivial (fun _=> ?_)
       clear hK K
       try simp only[pu]
       obtain⟨g',c',w8,hrun,hv8,hgv,⟨cur,hcb,hcs⟩,hfin⟩:=HSc9.out.val (W:=w) HVb.out (by have:=HMc9.out.size;have:=HBs.out;omega) HLl.out x HXi9.out (fun g hg=>⟨(HXf.out g hg).1,HF9.out g hg,(HXf.out g hg).2⟩) (wr.drew.heap.size) HZc9.out
       have HRun:=hide hrun
       have HFin:=hide hfin
       have q8:w8.cell? ⟨vb,3,none⟩=some (.slice A l.length c):=hv8.cell 3
       have f8:w8.frozen? ⟨vb,3,none⟩=false:=hv8.frozen 3
       have l8:=hv8.lt
       have hvg:¬vb=g':=fun e=>hgv e.symm
       have lg:=hcb.lt
       have hll:((l.length:Nat):Int) < (l.length:Int)+1:=by omega
       have b0:∃u,w8.cell? ⟨g',l.length * 5,none⟩=some u:=⟨_,(hcb.cell _).trans (Array.getElem?_eq_getElem (by omega))⟩
       obtain⟨u0,b0⟩:=b0
       have e0:w8.frozen? ⟨g',l.length * 5,none⟩=false:=hcb.frozen _
       have b1:∃u,w8.cell? ⟨g',l.length * 5+1,none⟩=some u:=⟨_,(hcb.cell _).trans (Array.getElem?_eq_getElem (by omega))⟩
       obtain⟨u1,b1⟩:=b1
       have e1:w8.frozen? ⟨g',l.length * 5+1,none⟩=false:=hcb.frozen _
       have b2:∃u,w8.cell? ⟨g',l.length * 5+2,none⟩=some u:=⟨_,(hcb.cell _).trans (Array.getElem?_eq_getElem (by omega))⟩
       obtain⟨u2,b2⟩:=b2
       have e2:w8.frozen? ⟨g',l.length * 5+2,none⟩=false:=hcb.frozen _
       have b3:∃u,w8.cell? ⟨g',l.length * 5+3,none⟩=some u:=⟨_,(hcb.cell _).trans (Array.getElem?_eq_getElem (by omega))⟩
       obtain⟨u3,b3⟩:=b3
       have e3:w8.frozen? ⟨g',l.length * 5+3,none⟩=false:=hcb.frozen _
       have b4:∃u,w8.cell? ⟨g',l.length * 5+4,none⟩=some u:=⟨_,(hcb.cell _).trans (Array.getElem?_eq_getElem (by omega))⟩
       obtain⟨u4,b4⟩:=b4
       have e4:w8.frozen? ⟨g',l.length * 5+4,none⟩=false:=hcb.frozen _
       clear hrun hfin hv8 hcb hcs
       refine wpAnyH_ready (rs:= [10]) (by kernel_rfl) (by simp) ?_
       refine AllReadyH.cons rfl (fun K hK=> ?_) AllReadyH.nil
       refine step_append_runL rfl (.tmp 53) (.tmp 59) 40 40 rfl (.slice A l.length c) (.slice (some ⟨wr.drew.heap.size,0,none⟩) 1 1) (by simp[Act.eval]) (by simp[Act.eval]) HRun.out ?_
       refine hK.out _ _ trivial (fun _=> ?_)
       clear hK K
       try simp only[pu]
       refine take_dst (i:=13) (v:= ?_) 62 rfl rfl (by kernel_rfl) (by kernel_rfl) (by kernel_rfl) (fun _ _ _ h=>h) (Or.inl ⟨by rfl,?_⟩) trivial ?_
       rotate_left
       ·intro wq hSw
        go_simp
        first | done | (with_reducible rfl)
       simp only[pu]
       refine take_dst (i:=14) (v:= ?_) 63 rfl rfl (by kernel_rfl) (by kernel_rfl) (by kernel_rfl) (fun _ _ _ h=>h) (Or.inl ⟨by rfl,?_⟩) trivial ?_
       rotate_left
       ·intro wq hSw
        go_simp
        first | done | (with_reducible rfl)
       simp only[pu]
       refine take_dst (i:=11) (v:= ?_) 61 rfl rfl (by kernel_rfl) (by kernel_rfl) (by kernel_rfl) (fun _ _ _ h=>h) (Or.inl ⟨by rfl,?_⟩) trivial ?_
       rotate_left
       ·intro wq hSw
        go_simp
        first | done | (with_reducible rfl)
       simp only[pu]
       refine wpAnyH_ready (rs:= [12,15]) (by kernel_rfl) (by simp) ?_
       refine AllReadyH.cons rfl (fun K hK=> ?_) (AllReadyH.cons rfl (fun K hK=> ?_) AllReadyH.nil)
       ·go_simp
        refine hK.out _ _ trivial (fun _=> ?_)
        clear hK K
        try simp only[pu]
        refine wpAnyH_ready (rs:= [15]) (by kernel_rfl) (by simp) ?_
        refine AllReadyH.cons rfl (fun K hK=> ?_) AllReadyH.nil
        go_simp
        refine hK.out _ _ trivial (fun _=> ?_)
        clear hK K
        try simp only[pu]
        refine wpAnyH_done (by kernel_rfl) ?_ _
        go_wp2_with fail
        go_meet
        obtain⟨hms9,hmod9,hblk9⟩:=HFin.out _ (.inl (by rw[HCx.out]))
        exact⟨k7,c',some ⟨g',0,none⟩,x,HX,hide (hmod9 _ HMc9.out (by have:=HBs.out;omega) (by simp)),hide ⟨hblk9 p _ _ HPb.out (by have:=HVp.out;omega) Hc9.out.blk,Hc9.out.le,Hc9.out.small⟩,hide hms9⟩
       ·go_simp
        refine hK.out _ _ trivial (fun _=> ?_)
        clear hK K
        try simp only[pu]
        refine wpAnyH_ready (rs:= [12]) (by kernel_rfl) (by simp) ?_
        refine AllReadyH.cons rfl (fun K hK=> ?_) AllReadyH.nil
        go_simp
        refine hK.out _ _ trivial (fun _=> ?_)
        clear hK K
        try simp only[pu]
        refine wpAnyH_done (by kernel_rfl) ?_ _
        go_wp2_with fail
        go_meet
        obtain⟨hms9,hmod9,hblk9⟩:=HFin.out _ (.inr (by rw[HCx.out]))
        exact⟨k7,c',some ⟨g',0,none⟩,x,HX,hide (hmod9 _ HMc9.out (by have:=HBs.out;omega) (by simp)),hide ⟨hblk9 p _ _ HPb.out (by have:=HVp.out;omega) Hc9.out.blk,Hc9.out.le,Hc9.out.small⟩,hide hms9⟩
     ·go_simp
      have hjv10:JVars p (wr.drew.alloc (.cells zcs 43)):=HJ0.out.mod HMa8.out (by have:=HPb.out;have:=HBs.out;omega) (by simp;have:=HVp.out;omega)
      refine(HVl.out _ _ _ _ Ha8.out hjv10).mono ?_
      rintro e w7 ⟨m7,hp⟩
      have HMc10:=hide (HMa8.out.trans m7 (by simp))
      have HSc10:=hide (HSa8.out.mod m7 (by simp;have:=HPb.out;have:=HVp.out;omega))
      have HZc10:=hide (m7.blk HZ8.out (by have:=Ha8.out.blk.lt;have:=HBs.out;have:=HPb.out;have:=HMa8.out.size;simp;simp at *;omega))
      cases hx:jvalue n (rst s kv)with
      | er r=>
       rw[hx]at hp
       obtain⟨k7,rfl,h1,h2⟩:=hp
       have HE:Hid (jlist (jvalue n) false (rst s (k+1))=.er r):=hide (by rw[HEQ.out,hx];rfl)
       clear m7 hx hK
       go_wp2_with fail
       rename_i heq
       cases heq
       exact⟨rfl,MP.er HE.out HMc10.out h1 h2⟩
      | ok jv r=>
       rw[hx]at hp
       obtain⟨k7,u,rfl,⟨x,rfl,rfl,hxi,hxf⟩,h1,h2⟩:=hp
       obtain⟨c0,c1,c2,c3,n3,d3,c4,n4,d4,hcx⟩:=cells5 x
       have HCx:=hide hcx
       rw[hcx]
       clear hcx
       have HX:Hid (jvalue n (rst s kv)=.ok x.v (rst s k7)):=hide (by rw[hx,h2])
       have Hc10:=hide h1
       have HXi10:=hide hxi
       have HXf:Hid (∀g∈JFoot x,base≤g∧(Value.slice A l.length c).ownBlock≠some g∧(Value.slice B kb.length d).ownBlock≠some g):=hide (fun g hg=>by
        have h3:=(hxf g hg).1
        have h4:=HMa8.out.size
        have h5:=HBs.out
        refine⟨by omega,fun e=> ?_,fun e=> ?_⟩
        ·have:=(HSa8.out.lo.lt g e).2;omega
        ·have:=(HSa8.out.ko.lt g e).2;omega)
       have HF10:Hid (∀g∈JFoot x,g < w7.heap.size):=hide (fun g hg=>(hxf g hg).2)
       clear m7 hx h1 h2 hxi hxf hjv10
       refine hK.out _ _ trivial (fun _=> ?_)
       clear hK K
       try simp only[pu]
       have qv10:w7.cell? ⟨vb,3,none⟩=some (.slice A l.length c):=HSc10.out.v.cell 3
       refine wpAnyH_ready (rs:= [3]) (by kernel_rfl) (by simp) ?_
       refine AllReadyH.cons rfl (fun K hK=> ?_) AllReadyH.nil
       go_simp
       refine hK.out _ _ trivial (fun _=> ?_)
       clear hK K
       try simp only[pu]
       refine take_dst (i:=8) (v:= ?_) 58 rfl rfl (by kernel_rfl) (by kernel_rfl) (by kernel_rfl) (fun _ _ _ h=>h) (Or.inl ⟨by rfl,?_⟩) trivial ?_
       rotate_left
       ·intro wq hSw
        go_simp
        first | done | (with_reducible rfl)
       simp only[pu]
       obtain⟨g',c',w8,hrun,hv8,hgv,⟨cur,hcb,hcs⟩,hfin⟩:=HSc10.out.val (W:=w) HVb.out (by have:=HMc10.out.size;have:=HBs.out;omega) HLl.out x HXi10.out (fun g hg=>⟨(HXf.out g hg).1,HF10.out g hg,(HXf.out g hg).2⟩) (wr.drew.heap.size) HZc10.out
       have HRun:=hide hrun
       have HFin:=hide hfin
       have q8:w8.cell? ⟨vb,3,none⟩=some (.slice A l.length c):=hv8.cell 3
       have f8:w8.frozen? ⟨vb,3,none⟩=false:=hv8.frozen 3
       have l8:=hv8.lt
       have hvg:¬vb=g':=fun e=>hgv e.symm
       have lg:=hcb.lt
       have hll:((l.length:Nat):Int) < (l.length:Int)+1:=by omega
       have b0:∃u,w8.cell? ⟨g',l.length * 5,none⟩=some u:=⟨_,(hcb.cell _).trans (Array.getElem?_eq_getElem (by omega))⟩
       obtain⟨u0,b0⟩:=b0
       have e0:w8.frozen? ⟨g',l.length * 5,none⟩=false:=hcb.frozen _
       have b1:∃u,w8.cell? ⟨g',l.length * 5+1,none⟩=some u:=⟨_,(hcb.cell _).trans (Array.getElem?_eq_getElem (by omega))⟩
       obtain⟨u1,b1⟩:=b1
       have e1:w8.frozen? ⟨g',l.length * 5+1,none⟩=false:=hcb.frozen _
       have b2:∃u,w8.cell? ⟨g',l.length * 5+2,none⟩=some u:=⟨_,(hcb.cell _).trans (Array.getElem?_eq_getElem (by omega))⟩
       obtain⟨u2,b2⟩:=b2
       have e2:w8.frozen? ⟨g',l.length * 5+2,none⟩=false:=hcb.frozen _
       have b3:∃u,w8.cell? ⟨g',l.length * 5+3,none⟩=some u:=⟨_,(hcb.cell _).trans (Array.getElem?_eq_getElem (by omega))⟩
       obtain⟨u3,b3⟩:=b3
       have e3:w8.frozen? ⟨g',l.length * 5+3,none⟩=false:=hcb.frozen _
       have b4:∃u,w8.cell? ⟨g',l.length * 5+4,none⟩=some u:=⟨_,(hcb.cell _).trans (Array.getElem?_eq_getElem (by omega))⟩
       obtain⟨u4,b4⟩:=b4
       have e4:w8.frozen? ⟨g',l.length * 5+4,none⟩=false:=hcb.frozen _
       clear hrun hfin hv8 hcb hcs
       refine wpAnyH_ready (rs:= [10]) (by kernel_rfl) (by simp) ?_
       refine AllReadyH.cons rfl (fun K hK=> ?_) AllReadyH.nil
       refine step_append_runL rfl (.tmp 53) (.tmp 59) 40 40 rfl (.slice A l.length c) (.slice (some ⟨wr.drew.heap.size,0,none⟩) 1 1) (by simp[Act.eval]) (by simp[Act.eval]) HRun.out ?_
       refine hK.out _ _ trivial (fun _=> ?_)
       clear hK K
       try simp only[pu]
       refine take_dst (i:=13) (v:= ?_) 62 rfl rfl (by kernel_rfl) (by kernel_rfl) (by kernel_rfl) (fun _ _ _ h=>h) (Or.inl ⟨by rfl,?_⟩) trivial ?_
       rotate_left
       ·intro wq hSw
        go_simp
        first | done | (with_reducible rfl)
       simp only[pu]
       refine take_dst (i:=14) (v:= ?_) 63 rfl rfl (by kernel_rfl) (by kernel_rfl) (by kernel_rfl) (fun _ _ _ h=>h) (Or.inl ⟨by rfl,?_⟩) trivial ?_
       rotate_left
       ·intro wq hSw
        go_simp
        first | done | (with_reducible rfl)
       simp only[pu]
       refine take_dst (i:=11) (v:= ?_) 61 rfl rfl (by kernel_rfl) (by kernel_rfl) (by kernel_rfl) (fun _ _ _ h=>h) (Or.inl ⟨by rfl,?_⟩) trivial ?_
       rotate_left
       ·intro wq hSw
        go_simp
        first | done | (with_reducible rfl)
       simp only[pu]
       refine wpAnyH_ready (rs:= [12,15]) (by kernel_rfl) (by simp) ?_
       refine AllReadyH.cons rfl (fun K hK=> ?_) (AllReadyH.cons rfl (fun K hK=> ?_) AllReadyH.nil)
       ·go_simp
        refine hK.out _ _ trivial (fun _=> ?_)
        clear hK K
        try simp only[pu]
        refine wpAnyH_ready (rs:= [15]) (by kernel_rfl) (by simp) ?_
        refine AllReadyH.cons rfl (fun K hK=> ?_) AllReadyH.nil
        go_simp
        refine hK.out _ _ trivial (fun _=> ?_)
        clear hK K
        try simp only[pu]
        refine wpAnyH_done (by kernel_rfl) ?_ _
        go_wp2_with fail
        go_meet
        obtain⟨hms9,hmod9,hblk9⟩:=HFin.out _ (.inl (by rw[HCx.out]))
        exact⟨k7,c',some ⟨g',0,none⟩,x,HX,hide (hmod9 _ HMc10.out (by have:=HBs.out;omega) (by simp)),hide ⟨hblk9 p _ _ HPb.out (by have:=HVp.out;omega) Hc10.out.blk,Hc10.out.le,Hc10.out.small⟩,hide hms9⟩
       ·go_simp
        refine hK.out _ _ trivial (fun _=> ?_)
        clear hK K
        try simp only[pu]
        refine wpAnyH_ready (rs:= [12]) (by kernel_rfl) (by simp) ?_
        refine AllReadyH.cons rfl (fun K hK=> ?_) AllReadyH.nil
        go_simp
        refine hK.out _ _ trivial (fun _=> ?_)
        clear hK K
        try simp only[pu]
        refine wpAnyH_done (by kernel_rfl) ?_ _
        go_wp2_with fail
        go_meet
        obtain⟨hms9,hmod9,hblk9⟩:=HFin.out _ (.inr (by rw[HCx.out]))
        exact⟨k7,c',some ⟨g',0,none⟩,x,HX,hide (hmod9 _ HMc10.out (by have:=HBs.out;omega) (by simp)),hide ⟨hblk9 p _ _ HPb.out (by have:=HVp.out;omega) Hc10.out.blk,Hc10.out.le,Hc10.out.small⟩,hide hms9⟩
   case rest=>
    obtain⟨k7,c',A',x,HX,hm7,h7,hms7⟩:=hcut
    have HT7:=hide (fun w' (h':Rd w' p s k7)=>by
     have:=take_any w' p k7 s ⟨#[44,93]⟩ h'
     rw[sep93_in]at this
     exact this)
    have hcv:(convert 100 9 (.slice (some ⟨wc.heap.size,0,none⟩) 2 2)).run Tryz.prog (wc.alloc (.cells #[.int .u8 44,.int .u8 93] 5))=.ok (.string ⟨#[44,93]⟩) (wc.alloc (.cells #[.int .u8 44,.int .u8 93] 5)):=
     conv_bytes _ _ [44,93] [] 2 (Blk.new wc _ _)
    have HMa:=hide (hm7.out.alloc (.cells #[.int .u8 44,.int .u8 93] 5))
    have AL:=(Mod.refl [] wc).alloc (.cells #[.int .u8 44,.int .u8 93] 5)
    have HSa:=hide (hms7.out.mod AL (by simp))
    have Ha:=hide (h7.out.mod AL (by simp))
    have hk7:kv≤k7:=by
     have:=(HGd.out.at_ (rst s kv)).le HX.out
     rw[rst_len s h7.out.le,rst_len s HKv.out]at this
     have:=h7.out.le
     have:=HKv.out
     omega
    have HK7:=hide hk7
    clear HMd HSd Hd HM9 HS9 H9 AL hm7 hms7 h7 hk7
    go_wp2_with fail
    refine(HT7.out _ Ha.out).mono ?_
    rintro e w9 ⟨m9,hp⟩
    have HM10:=hide (HMa.out.trans m9 (by simp))
    have HS10:=hide (HSa.out.mod m9 (by simp;have:=HPb.out;have:=HVp.out;omega))
    have HJ10:=hide (HJ0.out.mod HM10.out (by have:=HPb.out;have:=HBs.out;omega) (by simp;have:=HVp.out;omega))
    clear hcv m9
    cases hx:jtake (fun c=>c==44 || c==93) (rst s k7)with
    | er r=>
     rw[hx]at hp
     obtain⟨k8,rfl,h1,h2⟩:=hp
     have HE:Hid (jlist (jvalue n) false (rst s (k+1))=.er r):=hide (by rw[HEQ.out,HX.out];simp only[PR.bind];rw[hx])
     clear hx
     go_wp2_with fail
     rename_i heq
     cases heq
     exact⟨rfl,MP.er HE.out HM10.out h1 h2⟩
    | ok c9 r=>
     rw[hx]at hp
     obtain⟨k8,u,rfl,rfl,h1,h2⟩:=hp
     have hk8:k7+1≤k8:=by
      obtain⟨e1,_⟩:=take_ok hx
      have e2:=congrArg List.length e1
      rw[List.length_cons,←h2,rst_len s h1.le,rst_len s Ha.out.le]at e2
      have:=h1.le
      have:=Ha.out.le
      omega
     have hH:Hid (jlist (jvalue n) false (rst s (k+1))=if(c9==93)=true then .ok (JN.vs l++ [x.v],ks) (rst s k8)else(jmanyT (jvalue n) false (rst s k8)).bind fun y r=> .ok (JN.vs l++ (x.v ::y.1),ks++ y.2) r):=hide (by rw[HEQ.out,HX.out];simp only[PR.bind];rw[hx,h2])
     have H10:=hide h1
     have HK8:=hide hk8
     clear hx h1 h2 hk8
     have hvs:JN.vs (l++ [x])=JN.vs l++ [x.v]:=by rw[JN.vs_app];rfl
     have hll:(l++ [x]).length=l.length+1:=by simp
     by_cases hc9:c9=93
     ·have HE:Hid (jlist (jvalue n) false (rst s (k+1))=.ok (JN.vs l++ [x.v],ks) (rst s k8)):=hide (by rw[hH.out,if_pos (by rw[hc9];rfl)])
      have g1:((c9.toNat:Int)==93)=true:=by rw[hc9];rfl
      have g2:(c9.toNat==93)=true:=by rw[hc9];rfl
      have hb1:(l++ [x]).length≤jmax:=by have:=HLl.out;unfold jmax;omega
      have hb2:kb.length≤jmax:=by have:=HKl9.out;unfold jmax;omega
      obtain⟨j1,j2⟩:=HS10.out.jin hb1 hb2
      have HJi:=hide j1
      have HJf:=hide j2
      have HVs:=hide hvs
      clear hc9 hb1 hb2 j1 j2 hvs hll
      go_wp2_with fail
      first | refine⟨rfl,_,results_none rfl _ _ _,?_⟩ | refine bodyPost_ret (results_none rfl _ _ _) rfl ?_
      exact MP.ok HE.out HM10.out H10.out rfl HS10.out.v HVs.out HKb9.out HJi.out (fun g hg=>by have:=HJf.out g hg;have hb:=HBs.out;exact⟨by omega,this.2⟩)
     ·have HN:Hid (jlist (jvalue n) false (rst s (k+1))=(jmanyT (jvalue n) false (rst s k8)).bind fun y r=> .ok (JN.vs (l++ [x])++ y.1,ks++ y.2) r):=hide (by
       rw[hH.out,if_neg (by simpa using hc9),hvs]
       simp only[List.append_assoc,List.singleton_append,List.cons_append,List.nil_append])
      have hn9:c9.toNat≠93:=fun e=>hc9 (UInt8.toNat_inj.1 (by rw[e];rfl))
      have g1:((c9.toNat:Int)==93)=false:=by rw[beq_eq_false_iff_ne];omega
      have g2:(c9.toNat==93)=false:=by rw[beq_eq_false_iff_ne];exact hn9
      clear hc9 hn9 hvs
      go_wp2_with fail
      have hk8:=HK8.out
      have hk7:=HK7.out
      have hkj:=HKj9.out
      have hkl9:=HKlen.out
      have hle:=H10.out.le
      refine⟨?rel,?measure⟩
      case rel=>exact⟨k8,c',d,A',B,l++ [x],ks,by rw[hll];omega,by omega,HM10,H10,by rw[←HKb9.out];exact HS10,HJ10,by exact HN⟩
      case measure=>
       have e:atOf p w9=k8:=by
        unfold atOf
        rw[H10.out.blk.cell 1]
        rfl
       rw[HA.out,e]
       omega
theorem many_true (n:Nat) (hn:n≤8) (hV:ValueOk n) (w:World) (p k vb:Nat) (s:ByteArray) (h:Rd w p s k) (hk:k < s.size) (hv:Blk w vb 43 (JN.mk 6 0 ⟨#[]⟩ none 0 [] none 0 []).cells) (hpv:p < vb) (hj:JVars p w):
  Calls Tryz.prog 149 #[.pointer (some ⟨p,0,none⟩),.pointer (some ⟨vb,0,none⟩),.int .u8 125,.int .i64 (8 - n:Int)] w (MP w p vb s 6 (jlist (jvalue n) true (rst s (k+1)))):=by
 have hs:=h.small
 obtain⟨base,hbase⟩:∃base,w.heap.size=base:=⟨_,rfl⟩
 have HBs:=hide hbase
 have hvlt:=hv.lt
 have hpb:p < base:=by omega
 have hvb:vb < base:=by omega
 have HPb:=hide hpb
 have HVb:=hide hvb
 have HVp:=hide hpv
 have hst:=h.step hk
 have m1:Mod [p,vb] w (w.setCell ⟨p,1,none⟩ (.int .i64 ((k:Int)+1))):=(Mod.refl _ w).setCell (.inl (by simp)) _
 have HM1:=hide m1
 have H1:=hide hst
 have HS1:=hide ((MS.fresh hv base).mod (F:= [p]) ((Mod.refl [p] w).setCell (p:=⟨p,1,none⟩) (.inl (by simp)) (.int .i64 ((k:Int)+1))) (by simp;omega))
 have HJ1:=hide (hj.mod m1 (by omega) (by simp;omega))
 have HSp:=hide (fun w' k' (h':Rd w' p s k')=>space_any w' p k' s h')
 have HNx:=hide (fun w' k' (h':Rd w' p s k')=>next_mod w' p k' s h')
 have HTx:=hide (fun w' k' (h':Rd w' p s k')=>text_any w' p k' s h')
 have HVl:=hide hV
 have HGd:=hide (Good.value n)
 have a1:IntKind.i64.wrap ((k:Int)+1)=(k:Int)+1:=IntWalk.i64_in _ (by omega)
 have y0:w.cell? ⟨p,0,none⟩=some (.string s):=h.blk.cell 0
 have y1:w.cell? ⟨p,1,none⟩=some (.int .i64 (k:Nat)):=h.blk.cell 1
 have u1:w.frozen? ⟨p,1,none⟩=false:=h.blk.frozen 1
 have lp:=h.blk.lt
 have HLv:=hide hvlt
 have HJ0:=hide hj
 clear h hv hj hst m1 hvlt hpb hvb hV hbase
 go_enter Tryz.func149,Tryz.ntmps149
 go_wp2_with fail
 refine(HSp.out _ _ H1.out).mono ?_
 rintro e w2 ⟨rfl,m2,k2,hr2,hq2⟩
 have HM2:=hide (HM1.out.trans m2 (by simp))
 have H2:=hide hr2
 have HS2:=hide (HS1.out.mod m2 (by simp;have:=HPb.out;have:=HVp.out;omega))
 have HJ2:=hide (HJ1.out.mod m2 (by have:=H1.out.blk.lt;omega) (by simp))
 have HQ2:=hide hq2
 clear m2 hr2 hq2 y0 y1 u1 lp HM1 H1 HS1 HJ1 a1
 go_wp2_with fail
 refine(HNx.out _ _ H2.out).mono ?_
 rintro e w3 ⟨rfl,m3,hr3⟩
 have HM3:=hide (HM2.out.trans m3 (by simp))
 have H3:=hide hr3
 have HS3:=hide (HS2.out.mod m3 (by simp))
 have HJ3:=hide (HJ2.out.mod m3 (by have:=H2.out.blk.lt;omega) (by simp))
 clear m3 hr3 HM2 H2 HS2 HJ2
 by_cases hend:(rst s k2).head? =some 125
 ·obtain⟨t,ht⟩:∃t,rst s k2=125 ::t:=by
   cases hq:rst s k2 with
   | nil=>rw[hq]at hend;cases hend
   | cons c t=>rw[hq]at hend;cases hend;exact⟨t,rfl⟩
  obtain⟨hk2,hkc,hkt⟩:=rst_cons ht
  have HE:Hid (jlist (jvalue n) true (rst s (k+1))=.ok ([],[]) (rst s (k2+1))):=hide (by
   unfold jlist
   simp only
   rw[←HQ2.out,if_pos (by rw[hend];rfl),ht,hkt]
   rfl)
  have a1:IntKind.i64.wrap ((k2:Int)+1)=(k2:Int)+1:=IntWalk.i64_in _ (by omega)
  have HK2:=hide hk2
  rw[hend]
  have e0:((((some (125:UInt8)).getD 0).toNat:Nat):Int)=125:=rfl
  rw[e0]
  have y0:w3.cell? ⟨p,0,none⟩=some (.string s):=H3.out.blk.cell 0
  have y1:w3.cell? ⟨p,1,none⟩=some (.int .i64 (k2:Nat)):=H3.out.blk.cell 1
  have u1:w3.frozen? ⟨p,1,none⟩=false:=H3.out.blk.frozen 1
  have lp:=H3.out.blk.lt
  clear hend ht hkc hkt hk2
  go_wp2_with fail
  have m4:Mod [p] w3 (w3.setCell ⟨p,1,none⟩ (.int .i64 ((k2:Int)+1))):=(Mod.refl [p] w3).setCell (.inl (by simp)) _
  have hs4:=HS3.out.mod m4 (by simp;have:=HPb.out;have:=HVp.out;omega)
  obtain⟨j1,j2⟩:=hs4.jin (Nat.zero_le _) (Nat.zero_le _)
  refine⟨rfl,_,results_none rfl _ _ _,?_⟩
  exact MP.ok HE.out (HM3.out.trans m4 (by simp)) (H3.out.step HK2.out) rfl hs4.v rfl rfl j1 (fun g hg=>by have:=j2 g hg;have hb:=HBs.out;exact⟨by omega,this.2⟩)
 ·have hb:¬((((rst s k2).head?.getD 0).toNat:Nat):Int)=125:=by
   intro e
   apply hend
   cases hq:rst s k2 with
   | nil=>rw[hq]at e;simp at e
   | cons c t=>
    rw[hq]at e
    simp only[List.head?_cons,Option.getD_some]at e
    have:c=125:=UInt8.toNat_inj.1 (by show c.toNat=125;omega)
    rw[this];rfl
  have HQ3:Hid (jlist (jvalue n) true (rst s (k+1))=jmanyT (jvalue n) true (rst s k2)):=hide (by
   unfold jlist
   simp only
   rw[←HQ2.out,if_neg (by intro e;exact hend (e.trans rfl))])
  obtain⟨hb0,hhb⟩:∃b:Nat,((rst s k2).head?.getD 0).toNat=b:=⟨_,rfl⟩
  rw[hhb]at hb ⊢
  have g0:((hb0:Int)==125)=false:=by rw[beq_eq_false_iff_ne];exact hb
  have g0':(hb0==125)=false:=by rw[beq_eq_false_iff_ne];omega
  clear hend hb hhb
  go_wp2_with fail
  clear g0 g0'
  go_loopw [] (fun wr=>∃(j c d:Nat) (A B:Option Addr) (l:List JN) (ks:List (List UInt8)),l.length≤j∧ks.length≤j∧Hid (Mod [p,vb] w wr)∧Hid (Rd wr p s j)∧Hid (MS wr base vb 6 A c l B d (ks.map tob))∧Hid (JVars p wr)∧Hid (jlist (jvalue n) true (rst s (k+1))=(jmanyT (jvalue n) true (rst s j)).bind fun y r=> .ok (JN.vs l++ y.1,ks++ y.2) r)) (fun wr=>s.size - atOf p wr)
  case atStart=>exact⟨k2,0,0,none,none,[],[],by simp,by simp,HM3,H3,HS3,HJ3,hide (by rw[HQ3.out];cases jmanyT (jvalue n) true (rst s k2) <;> rfl)⟩
  case round=>
   obtain⟨j,c,d,A,B,l,ks,hlj,hkj,hm,hr,hms,hjv,hq⟩:=hrel
   obtain⟨kb,hkb⟩:∃kb,ks.map tob=kb:=⟨_,rfl⟩
   rw[hkb]at hms
   have hkl:kb.length≤j:=by rw[←hkb,List.length_map];exact hkj
   have HKb:=hide hkb
   have HKl:Hid (kb.length≤1000000):=hide (by have:=hr.out.le;omega)
   have hjs:=hr.out.le
   clear hkb
   have q0:wr.cell? ⟨vb,0,none⟩=some (.int .i64 6):=hms.out.v.cell 0
   clear HM3 H3 HS3 HJ3
   go_wp2_with fail
   refine(HSp.out _ _ hr.out).mono ?_
   rintro e w3 ⟨rfl,m3,k3,hr3,hq3⟩
   have HM3:=hide (hm.out.trans m3 (by simp))
   have H3:=hide hr3
   have HS3:=hide (hms.out.mod m3 (by simp;have:=HPb.out;have:=HVp.out;omega))
   have HJ3:=hide (hjv.out.mod m3 (by have:=hr.out.blk.lt;omega) (by simp))
   have HQ3':=hide hq3
   have H3d:=hide (hr3.mod ((Mod.refl [] w3).drew) (by simp))
   clear m3 hr3 hq3 q0
   go_wp2_with fail
   go_cut [43] (fun v wx=>∃(k4 d':Nat) (B':Option Addr) (kk:List UInt8),Hid (jtext (rst s k3)=.ok kk (rst s k4))∧Hid (Mod [p,vb] w wx)∧Hid (Rd wx p s k4)∧Hid (MS wx base vb 6 A c l B' d' (kb++ [tob kk]))∧Hid (JVars p wx))
   case first=>
    have q4:w3.drew.cell? ⟨vb,4,none⟩=some (.slice B kb.length d):=HS3.out.v.cell 4
    refine wp_region_held_drew (S:=fun _=>True) (by kernel_rfl) trivial (fun _=> ?_)
    refine take_dst (i:=0) (v:= ?_) 35 rfl rfl (by kernel_rfl) (by kernel_rfl) (by kernel_rfl) (fun _ _ _ h=>h) (Or.inl ⟨by rfl,?_⟩) trivial ?_
    rotate_left
    ·intro wq hSw
     go_simp
     first | done | (with_reducible rfl)
    simp only[pu]
    refine take_dst (i:=1) (v:= ?_) 36 rfl rfl (by kernel_rfl) (by kernel_rfl) (by kernel_rfl) (fun _ _ _ h=>h) (Or.inl ⟨by rfl,?_⟩) trivial ?_
    rotate_left
    ·intro wq hSw
     go_simp
     first | done | (with_reducible rfl)
    simp only[pu]
    refine take_dst (i:=2) (v:= ?_) 37 rfl rfl (by kernel_rfl) (by kernel_rfl) (by kernel_rfl) (fun _ _ _ h=>h) (Or.inl ⟨by rfl,?_⟩) trivial ?_
    rotate_left
    ·intro wq hSw
     go_simp
     first | done | (with_reducible rfl)
    simp only[pu]
    refine take_dst (i:=3) (v:= ?_) 38 rfl rfl (by kernel_rfl) (by kernel_rfl) (by kernel_rfl) (fun _ _ _ h=>h) (Or.inl ⟨by rfl,?_⟩) trivial ?_
    rotate_left
    ·intro wq hSw
     go_simp
     first | done | (with_reducible rfl)
    simp only[pu]
    refine take_dst (i:=5) (v:= ?_) 40 rfl rfl (by kernel_rfl) (by kernel_rfl) (by kernel_rfl) (fun _ _ _ h=>h) (Or.inl ⟨by rfl,?_⟩) trivial ?_
    rotate_left
    ·intro wq hSw
     go_simp
     first | done | (with_reducible rfl)
    simp only[pu]
    refine wpAnyH_ready (rs:= [4,6]) (by kernel_rfl) (by simp) ?_
    refine AllReadyH.cons rfl (fun K hK=> ?_) (AllReadyH.cons rfl (fun K hK=> ?_) AllReadyH.nil)
    ·go_simp
     refine hK.out _ _ trivial (fun _=> ?_)
     clear hK K
     try simp only[pu]
     refine wpAnyH_ready (rs:= [6]) (by kernel_rfl) (by simp) ?_
     refine AllReadyH.cons rfl (fun K hK=> ?_) AllReadyH.nil
     go_simp
     refine(HTx.out _ _ H3d.out).mono ?_
     rintro e w4 ⟨m4,hp⟩
     have HM4:=hide ((HM3.out.drew).trans m4 (by simp))
     have HS4:=hide ((HS3.out.mod ((Mod.refl [] w3).drew) (by simp)).mod m4 (by simp;have:=HPb.out;have:=HVp.out;omega))
     have HJ4:=hide ((HJ3.out.mod ((Mod.refl [] w3).drew) (by have:=H3.out.blk.lt;omega) (by simp)).mod m4 (by have:=H3d.out.blk.lt;omega) (by simp))
     cases hx:jtext (rst s k3)with
     | er r=>
      rw[hx]at hp
      obtain⟨k4,rfl,h1,h2⟩:=hp
      have HE:Hid (jlist (jvalue n) true (rst s (k+1))=.er r):=hide (by
       rw[hq.out,jmanyT_eq HGd.out]
       unfold jstep jfront
       simp only[if_true]
       unfold jkey
       rw[←HQ3'.out,hx]
       rfl)
      clear m4 hx hK
      go_wp2_with fail
      rename_i heq
      cases heq
      exact⟨rfl,MP.er HE.out HM4.out h1 h2⟩
     | ok kk r=>
      rw[hx]at hp
      obtain⟨k4,u,rfl,hu,h1,h2⟩:=hp
      subst hu
      have HX:Hid (jtext (rst s k3)=.ok kk (rst s k4)):=hide (by rw[hx,h2])
      have H4:=hide h1
      clear m4 hx h1 h2
      refine hK.out _ _ trivial (fun _=> ?_)
      clear hK K
      try simp only[pu]
      refine wpAnyH_ready (rs:= [7]) (by kernel_rfl) (by simp) ?_
      refine AllReadyH.cons rfl (fun K hK=> ?_) AllReadyH.nil
      go_simp
      refine hK.out _ _ trivial (fun _=> ?_)
      clear hK K
      try simp only[pu]
      have HS5:=hide (HS4.out.mod ((Mod.refl [] w4).alloc (.cells #[.string (tob kk)] 9)) (by simp))
      have HM5:=hide (HM4.out.alloc (.cells #[.string (tob kk)] 9))
      have HJ5:=hide (HJ4.out.mod ((Mod.refl [] w4).alloc (.cells #[.string (tob kk)] 9)) (by have:=H4.out.blk.lt;omega) (by simp))
      have H5:=hide (H4.out.mod ((Mod.refl [] w4).alloc (.cells #[.string (tob kk)] 9)) (by simp))
      obtain⟨B',d',w6,hrun,hv6,hms6,hmod6,hblk6⟩:=HS5.out.key (W:=w) HVb.out (Nat.le_trans (by rw[←HBs.out];exact HM4.out.size) (by simp)) HKl.out (tob kk) w4.heap.size (Blk.new w4 9 #[.string (tob kk)])
      have HRun:=hide hrun
      have q6:w6.cell? ⟨vb,4,none⟩=some (.slice B kb.length d):=hv6.cell 4
      have f6:w6.frozen? ⟨vb,4,none⟩=false:=hv6.frozen 4
      have l6:=hv6.lt
      have HFin:=hide (And.intro hms6 (And.intro (hmod6 _ HM5.out (by have:=HBs.out;omega) (by simp)) (hblk6 p _ _ HPb.out (by have:=HVp.out;omega) H5.out.blk)))
      clear hrun hv6 hms6 hmod6 hblk6
      refine wpAnyH_ready (rs:= [8]) (by kernel_rfl) (by simp) ?_
      refine AllReadyH.cons rfl (fun K hK=> ?_) AllReadyH.nil
      refine step_append_runL rfl (.tmp 39) (.tmp 42) 41 41 rfl (.slice B kb.length d) (.slice (some ⟨w4.heap.size,0,none⟩) 1 1) (by simp[Act.eval]) (by simp[Act.eval]) HRun.out ?_
      refine hK.out _ _ trivial (fun _=> ?_)
      clear hK K
      try simp only[pu]
      refine take_dst (i:=9) (v:= ?_) 44 rfl rfl (by kernel_rfl) (by kernel_rfl) (by kernel_rfl) (fun _ _ _ h=>h) (Or.inl ⟨by rfl,?_⟩) trivial ?_
      rotate_left
      ·intro wq hSw
       go_simp
       first | done | (with_reducible rfl)
      simp only[pu]
      refine take_dst (i:=10) (v:= ?_) 45 rfl rfl (by kernel_rfl) (by kernel_rfl) (by kernel_rfl) (fun _ _ _ h=>h) (Or.inl ⟨by rfl,?_⟩) trivial ?_
      rotate_left
      ·intro wq hSw
       go_simp
       first | done | (with_reducible rfl)
      simp only[pu]
      refine wpAnyH_ready (rs:= [11]) (by kernel_rfl) (by simp) ?_
      refine AllReadyH.cons rfl (fun K hK=> ?_) AllReadyH.nil
      go_simp
      refine hK.out _ _ trivial (fun _=> ?_)
      clear hK K
      try simp only[pu]
      refine wpAnyH_done (by kernel_rfl) ?_ _
      go_wp2_with fail
      go_meet
      have hr7:Rd (w6.setCell ⟨vb,4,none⟩ (.slice B' (kb.length+1) d')) p s k4:=⟨HFin.out.2.2,H4.out.le,H4.out.small⟩
      exact⟨k4,d',B',kk,HX,hide HFin.out.2.1,hide hr7,hide HFin.out.1,hide (HJ0.out.mod HFin.out.2.1 (by have:=HPb.out;have:=HBs.out;omega) (by simp;have:=HVp.out;omega))⟩
    ·go_simp
     refine(HTx.out _ _ H3d.out).mono ?_
     rintro e w4 ⟨m4,hp⟩
     have HM4:=hide ((HM3.out.drew).trans m4 (by simp))
     have HS4:=hide ((HS3.out.mod ((Mod.refl [] w3).drew) (by simp)).mod m4 (by simp;have:=HPb.out;have:=HVp.out;omega))
     have HJ4:=hide ((HJ3.out.mod ((Mod.refl [] w3).drew) (by have:=H3.out.blk.lt;omega) (by simp)).mod m4 (by have:=H3d.out.blk.lt;omega) (by simp))
     cases hx:jtext (rst s k3)with
     | er r=>
      rw[hx]at hp
      obtain⟨k4,rfl,h1,h2⟩:=hp
      have HE:Hid (jlist (jvalue n) true (rst s (k+1))=.er r):=hide (by
       rw[hq.out,jmanyT_eq HGd.out]
       unfold jstep jfront
       simp only[if_true]
       unfold jkey
       rw[←HQ3'.out,hx]
       rfl)
      clear m4 hx hK
      go_wp2_with fail
      rename_i heq
      cases heq
      exact⟨rfl,MP.er HE.out HM4.out h1 h2⟩
     | ok kk r=>
      rw[hx]at hp
      obtain⟨k4,u,rfl,hu,h1,h2⟩:=hp
      subst hu
      have HX:Hid (jtext (rst s k3)=.ok kk (rst s k4)):=hide (by rw[hx,h2])
      have H4:=hide h1
      clear m4 hx h1 h2
      refine hK.out _ _ trivial (fun _=> ?_)
      clear hK K
      try simp only[pu]
      have q4':w4.cell? ⟨vb,4,none⟩=some (.slice B kb.length d):=HS4.out.v.cell 4
      refine wpAnyH_ready (rs:= [4,7]) (by kernel_rfl) (by simp) ?_
      refine AllReadyH.cons rfl (fun K hK=> ?_) (AllReadyH.cons rfl (fun K hK=> ?_) AllReadyH.nil)
      ·go_simp
       refine hK.out _ _ trivial (fun _=> ?_)
       clear hK K
       try simp only[pu]
       refine wpAnyH_ready (rs:= [7]) (by kernel_rfl) (by simp) ?_
       refine AllReadyH.cons rfl (fun K hK=> ?_) AllReadyH.nil
       go_simp
       refine hK.out _ _ trivial (fun _=> ?_)
       clear hK K
       try simp only[pu]
       have HS5:=hide (HS4.out.mod ((Mod.refl [] w4).alloc (.cells #[.string (tob kk)] 9)) (by simp))
       have HM5:=hide (HM4.out.alloc (.cells #[.string (tob kk)] 9))
       have HJ5:=hide (HJ4.out.mod ((Mod.refl [] w4).alloc (.cells #[.string (tob kk)] 9)) (by have:=H4.out.blk.lt;omega) (by simp))
       have H5:=hide (H4.out.mod ((Mod.refl [] w4).alloc (.cells #[.string (tob kk)] 9)) (by simp))
       obtain⟨B',d',w6,hrun,hv6,hms6,hmod6,hblk6⟩:=HS5.out.key (W:=w) HVb.out (Nat.le_trans (by rw[←HBs.out];exact HM4.out.size) (by simp)) HKl.out (tob kk) w4.heap.size (Blk.new w4 9 #[.string (tob kk)])
       have HRun:=hide hrun
       have q6:w6.cell? ⟨vb,4,none⟩=some (.slice B kb.length d):=hv6.cell 4
       have f6:w6.frozen? ⟨vb,4,none⟩=false:=hv6.frozen 4
       have l6:=hv6.lt
       have HFin:=hide (And.intro hms6 (And.intro (hmod6 _ HM5.out (by have:=HBs.out;omega) (by simp)) (hblk6 p _ _ HPb.out (by have:=HVp.out;omega) H5.out.blk)))
       clear hrun hv6 hms6 hmod6 hblk6
       refine wpAnyH_ready (rs:= [8]) (by kernel_rfl) (by simp) ?_
       refine AllReadyH.cons rfl (fun K hK=> ?_) AllReadyH.nil
       refine step_append_runL rfl (.tmp 39) (.tmp 42) 41 41 rfl (.slice B kb.length d) (.slice (some ⟨w4.heap.size,0,none⟩) 1 1) (by simp[Act.eval]) (by simp[Act.eval]) HRun.out ?_
       refine hK.out _ _ trivial (fun _=> ?_)
       clear hK K
       try simp only[pu]
       refine take_dst (i:=9) (v:= ?_) 44 rfl rfl (by kernel_rfl) (by kernel_rfl) (by kernel_rfl) (fun _ _ _ h=>h) (Or.inl ⟨by rfl,?_⟩) trivial ?_
       rotate_left
       ·intro wq hSw
        go_simp
        first | done | (with_reducible rfl)
       simp only[pu]
       refine take_dst (i:=10) (v:= ?_) 45 rfl rfl (by kernel_rfl) (by kernel_rfl) (by kernel_rfl) (fun _ _ _ h=>h) (Or.inl ⟨by rfl,?_⟩) trivial ?_
       rotate_left
       ·intro wq hSw
        go_simp
        first | done | (with_reducible rfl)
       simp only[pu]
       refine wpAnyH_ready (rs:= [11]) (by kernel_rfl) (by simp) ?_
       refine AllReadyH.cons rfl (fun K hK=> ?_) AllReadyH.nil
       go_simp
       refine hK.out _ _ trivial (fun _=> ?_)
       clear hK K
       try simp only[pu]
       refine wpAnyH_done (by kernel_rfl) ?_ _
       go_wp2_with fail
       go_meet
       have hr7:Rd (w6.setCell ⟨vb,4,none⟩ (.slice B' (kb.length+1) d')) p s k4:=⟨HFin.out.2.2,H4.out.le,H4.out.small⟩
       exact⟨k4,d',B',kk,HX,hide HFin.out.2.1,hide hr7,hide HFin.out.1,hide (HJ0.out.mod HFin.out.2.1 (by have:=HPb.out;have:=HBs.out;omega) (by simp;have:=HVp.out;omega))⟩
      ·go_simp
       refine hK.out _ _ trivial (fun _=> ?_)
       clear hK K
       try simp only[pu]
       have lv4:=HS4.out.v.lt
       have q4'':(w4.alloc (.cells #[.string (tob kk)] 9)).cell? ⟨vb,4,none⟩=some (.slice B kb.length d):=(HS4.out.v.alloc _).cell 4
       refine wpAnyH_ready (rs:= [4]) (by kernel_rfl) (by simp) ?_
       refine AllReadyH.cons rfl (fun K hK=> ?_) AllReadyH.nil
       go_simp
       refine hK.out _ _ trivial (fun _=> ?_)
       clear hK K
       try simp only[pu]
       have HS5:=hide (HS4.out.mod ((Mod.refl [] w4).alloc (.cells #[.string (tob kk)] 9)) (by simp))
       have HM5:=hide (HM4.out.alloc (.cells #[.string (tob kk)] 9))
       have HJ5:=hide (HJ4.out.mod ((Mod.refl [] w4).alloc (.cells #[.string (tob kk)] 9)) (by have:=H4.out.blk.lt;omega) (by simp))
       have H5:=hide (H4.out.mod ((Mod.refl [] w4).alloc (.cells #[.string (tob kk)] 9)) (by simp))
       obtain⟨B',d',w6,hrun,hv6,hms6,hmod6,hblk6⟩:=HS5.out.key (W:=w) HVb.out (Nat.le_trans (by rw[←HBs.out];exact HM4.out.size) (by simp)) HKl.out (tob kk) w4.heap.size (Blk.new w4 9 #[.string (tob kk)])
       have HRun:=hide hrun
       have q6:w6.cell? ⟨vb,4,none⟩=some (.slice B kb.length d):=hv6.cell 4
       have f6:w6.frozen? ⟨vb,4,none⟩=false:=hv6.frozen 4
       have l6:=hv6.lt
       have HFin:=hide (And.intro hms6 (And.intro (hmod6 _ HM5.out (by have:=HBs.out;omega) (by simp)) (hblk6 p _ _ HPb.out (by have:=HVp.out;omega) H5.out.blk)))
       clear hrun hv6 hms6 hmod6 hblk6
       refine wpAnyH_ready (rs:= [8]) (by kernel_rfl) (by simp) ?_
       refine AllReadyH.cons rfl (fun K hK=> ?_) AllReadyH.nil
       refine step_append_runL rfl (.tmp 39) (.tmp 42) 41 41 rfl (.slice B kb.length d) (.slice (some ⟨w4.heap.size,0,none⟩) 1 1) (by simp[Act.eval]) (by simp[Act.eval]) HRun.out ?_
       refine hK.out _ _ trivial (fun _=> ?_)
       clear hK K
       try simp only[pu]
       refine take_dst (i:=9) (v:= ?_) 44 rfl rfl (by kernel_rfl) (by kernel_rfl) (by kernel_rfl) (fun _ _ _ h=>h) (Or.inl ⟨by rfl,?_⟩) trivial ?_
       rotate_left
       ·intro wq hSw
        go_simp
        first | done | (with_reducible rfl)
       simp only[pu]
       refine take_dst (i:=10) (v:= ?_) 45 rfl rfl (by kernel_rfl) (by kernel_rfl) (by kernel_rfl) (fun _ _ _ h=>h) (Or.inl ⟨by rfl,?_⟩) trivial ?_
       rotate_left
       ·intro wq hSw
        go_simp
        first | done | (with_reducible rfl)
       simp only[pu]
       refine wpAnyH_ready (rs:= [11]) (by kernel_rfl) (by simp) ?_
       refine AllReadyH.cons rfl (fun K hK=> ?_) AllReadyH.nil
       go_simp
       refine hK.out _ _ trivial (fun _=> ?_)
       clear hK K
       try simp only[pu]
       refine wpAnyH_done (by kernel_rfl) ?_ _
       go_wp2_with fail
       go_meet
       have hr7:Rd (w6.setCell ⟨vb,4,none⟩ (.slice B' (kb.length+1) d')) p s k4:=⟨HFin.out.2.2,H4.out.le,H4.out.small⟩
       exact⟨k4,d',B',kk,HX,hide HFin.out.2.1,hide hr7,hide HFin.out.1,hide (HJ0.out.mod HFin.out.2.1 (by have:=HPb.out;have:=HBs.out;omega) (by simp;have:=HVp.out;omega))⟩
   case rest=>
    obtain⟨k4,d,B,kk,hX4,hm4,h4,hms4,hjv4⟩:=hcut
    have hjk3:j≤k3:=by
     have e:=congrArg List.length HQ3'.out
     have e2:(jsp (rst s j)).length≤(rst s j).length:=List.Sublist.length_le (List.dropWhile_sublist _)
     rw[←e,rst_len s H3.out.le,rst_len s hr.out.le]at e2
     have:=H3.out.le
     omega
    have hk34:k3≤k4:=by
     have:=(Good.text.at_ (rst s k3)).le hX4.out
     rw[rst_len s h4.out.le,rst_len s H3.out.le]at this
     have:=h4.out.le
     have:=H3.out.le
     omega
    obtain⟨kb,hkb2⟩:∃kb',kb++ [tob kk]=kb':=⟨_,rfl⟩
    rw[hkb2]at hms4
    have HKb9:Hid (kb=(ks++ [kk]).map tob):=hide (by rw[←hkb2,←HKb.out];simp)
    have HJK:=hide (Nat.le_trans hjk3 hk34)
    have HA:Hid (atOf p wr=j):=hide (by unfold atOf;rw[hr.out.blk.cell 1];rfl)
    have HLl:Hid (l.length≤1000000):=hide (by have:=hr.out.le;omega)
    have HX3:Hid (jtext (jsp (rst s j))=.ok kk (rst s k4)):=hide (by rw[←HQ3'.out];exact hX4.out)
    clear hjk3 hk34 hkb2 HM3 HS3 HJ3 H3d H3 hX4 hm hms hjv hkl HKl HKb HQ3'
    go_wp2_with fail
    refine(HSp.out _ _ h4.out).mono ?_
    rintro e w5 ⟨rfl,m5,k5,hr5,hq5⟩
    have HM5:=hide (hm4.out.trans m5 (by simp))
    have H5:=hide hr5
    have HS5:=hide (hms4.out.mod m5 (by simp;have:=HPb.out;have:=HVp.out;omega))
    have HQ5:=hide hq5
    have hk45:k4≤k5:=by
     have e:=congrArg List.length hq5
     have e2:(jsp (rst s k4)).length≤(rst s k4).length:=List.Sublist.length_le (List.dropWhile_sublist _)
     rw[←e,rst_len s hr5.le,rst_len s h4.out.le]at e2
     have:=hr5.le
     have:=h4.out.le
     omega
    have HK45:=hide hk45
    clear m5 hr5 hq5 hm4 h4 hms4 hjv4 hk45
    have HT5:=hide (by
     have:=take_any w5 p k5 s ⟨#[58]⟩ H5.out
     rw[colS_in]at this
     exact this)
    go_wp2_with fail
    refine HT5.out.mono ?_
    rintro e w6 ⟨m6,hp⟩
    have HM9:=hide (HM5.out.trans m6 (by simp))
    have HS9:=hide (HS5.out.mod m6 (by simp;have:=HPb.out;have:=HVp.out;omega))
    clear HT5
    cases hx:jtake (· ==58) (rst s k5)with
    | er r=>
     rw[hx]at hp
     obtain⟨k6,rfl,h1,h2⟩:=hp
     have HE:Hid (jlist (jvalue n) true (rst s (k+1))=.er r):=hide (by
      rw[hq.out,congrFun (jmanyT_eq HGd.out true) (rst s j)]
      unfold jstep jfront
      simp only[if_true]
      unfold jkey
      rw[HX3.out]
      simp only[PR.bind]
      rw[←HQ5.out,hx])
     clear m6 hx
     go_wp2_with fail
     rename_i heq
     cases heq
     exact⟨rfl,MP.er HE.out HM9.out h1 h2⟩
    | ok c6 r=>
     rw[hx]at hp
     obtain⟨kv,u,rfl,rfl,h1,h2⟩:=hp
     have HEQ:Hid (jlist (jvalue n) true (rst s (k+1))=((jvalue n) (rst s kv)).bind fun v r=>(jtake (fun c=>c==44 || c==125) r).bind fun c r=>if(c==125)=true then .ok (JN.vs l++ [v],(ks++ [kk])) r else(jmanyT (jvalue n) true r).bind fun y r=> .ok (JN.vs l++ (v ::y.1),ks++ (kk ::y.2)) r):=hide (by
      rw[hq.out,congrFun (jmanyT_eq HGd.out true) (rst s j)]
      exact mstep_t _ _ _ _ _ _ (by unfold jkey;rw[HX3.out];simp only[PR.bind];rw[←HQ5.out,hx,h2]))
     have hk56:k5+1≤kv:=by
      obtain⟨e1,_⟩:=take_ok hx
      have e2:=congrArg List.length e1
      rw[List.length_cons,←h2,rst_len s h1.le,rst_len s H5.out.le]at e2
      have:=h1.le
      have:=H5.out.le
      omega
     have H9:=hide h1
     have HKv:=hide h1.le
     have HKj9:Hid (j≤kv):=hide (by have:=HJK.out;have:=HK45.out;omega)
     have HKlen:Hid (ks.length≤j):=hide hkj
     have HKl9:Hid (kb.length≤1000000):=hide (by rw[HKb9.out];simp;have:=HJK.out;have:=HK45.out;have:=h1.le;omega)
     clear m6 hx h1 h2 hk56 hq HX3 HQ5 HM5 H5 HS5 hr
     go_wp2_with fail
     have HMd:=hide HM9.out.drew
     have HSd:=hide (HS9.out.mod ((Mod.refl [] w6).drew) (by simp))
     have Hd:=hide (H9.out.mod ((Mod.refl [] w6).drew) (by simp))
     have a2:IntKind.i64.wrap ((8:Int) - n+1)=9 - n:=by rw[IntWalk.i64_in _ (by omega)];omega
     go_cut [60] (fun v wx=>∃(k7 c':Nat) (A':Option Addr) (x:JN),Hid (jvalue n (rst s kv)=.ok x.v (rst s k7))∧Hid (Mod [p,vb] w wx)∧Hid (Rd wx p s k7)∧Hid (MS wx base vb 6 A' c' (l++ [x]) B d kb))
     case first=>
      have q3:w6.drew.cell? ⟨vb,3,none⟩=some (.slice A l.length c):=HSd.out.v.cell 3
      have q3w:w6.cell? ⟨vb,3,none⟩=some (.slice A l.length c):=HS9.out.v.cell 3
      have lw:=HS9.out.v.lt
      have q3x:(w6.alloc (.cells zcs 43)).cell? ⟨vb,3,none⟩=some (.slice A l.length c):=(HS9.out.v.alloc _).cell 3
      unfold zcs at q3x
      clear HM9 HS9 H9
      refine wp_region_held_drew (S:=fun _=>True) (by kernel_rfl) trivial (fun _=> ?_)
      refine take_dst (i:=0) (v:= ?_) 50 rfl rfl (by kernel_rfl) (by kernel_rfl) (by kernel_rfl) (fun _ _ _ h=>h) (Or.inl ⟨by rfl,?_⟩) trivial ?_
      rotate_left
      ·intro wq hSw
       go_simp
       first | done | (with_reducible rfl)
      simp only[pu]
      refine take_dst (i:=1) (v:= ?_) 51 rfl rfl (by kernel_rfl) (by kernel_rfl) (by kernel_rfl) (fun _ _ _ h=>h) (Or.inl ⟨by rfl,?_⟩) trivial ?_
      rotate_left
      ·intro wq hSw
       go_simp
       first | done | (with_reducible rfl)
      simp only[pu]
      refine take_dst (i:=2) (v:= ?_) 52 rfl rfl (by kernel_rfl) (by kernel_rfl) (by kernel_rfl) (fun _ _ _ h=>h) (Or.inl ⟨by rfl,?_⟩) trivial ?_
      rotate_left
      ·intro wq hSw
       go_simp
       first | done | (with_reducible rfl)
      simp only[pu]
      refine take_dst (i:=4) (v:= ?_) 54 rfl rfl (by kernel_rfl) (by kernel_rfl) (by kernel_rfl) (fun _ _ _ h=>h) (Or.inl ⟨by rfl,?_⟩) trivial ?_
      rotate_left
      ·intro wq hSw
       go_simp
       first | done | (with_reducible rfl)
      simp only[pu]
      refine take_dst (i:=5) (v:= ?_) 55 rfl rfl (by kernel_rfl) (by kernel_rfl) (by kernel_rfl) (fun _ _ _ h=>h) (Or.inl ⟨by rfl,?_⟩) trivial ?_
      rotate_left
      ·intro wq hSw
       go_simp
       first | done | (with_reducible rfl)
      simp only[pu]
      refine take_dst (i:=6) (v:= ?_) 56 rfl rfl (by kernel_rfl) (by kernel_rfl) (by kernel_rfl) (fun _ _ _ h=>h) (Or.inl ⟨by rfl,?_⟩) trivial ?_
      rotate_left
      ·intro wq hSw
       go_simp
       first | done | (with_reducible rfl)
      simp only[pu]
      refine wpAnyH_ready (rs:= [3,7,9]) (by kernel_rfl) (by simp) ?_
      refine AllReadyH.cons rfl (fun K hK=> ?_) (AllReadyH.cons rfl (fun K hK=> ?_) (AllReadyH.cons rfl (fun K hK=> ?_) AllReadyH.nil))
      ·go_simp
       refine hK.out _ _ trivial (fun _=> ?_)
       clear hK K
       try simp only[pu]
       refine take_dst (i:=8) (v:= ?_) 58 rfl rfl (by kernel_rfl) (by kernel_rfl) (by kernel_rfl) (fun _ _ _ h=>h) (Or.inl ⟨by rfl,?_⟩) trivial ?_
       rotate_left
       ·intro wq hSw
        go_simp
        first | done | (with_reducible rfl)
       simp only[pu]
       refine wpAnyH_ready (rs:= [7,9]) (by kernel_rfl) (by simp) ?_
       refine AllReadyH.cons rfl (fun K hK=> ?_) (AllReadyH.cons rfl (fun K hK=> ?_) AllReadyH.nil)
       ·go_simp
        have hjv1:JVars p w6.drew:=HJ0.out.mod HMd.out (by have:=HPb.out;have:=HBs.out;omega) (by simp;have:=HVp.out;omega)
        refine(HVl.out _ _ _ _ Hd.out hjv1).mono ?_
        rintro e w7 ⟨m7,hp⟩
        have HMc1:=hide (HMd.out.trans m7 (by simp))
        have HSc1:=hide (HSd.out.mod m7 (by simp;have:=HPb.out;have:=HVp.out;omega))
        cases hx:jvalue n (rst s kv)with
        | er r=>
         rw[hx]at hp
         obtain⟨k7,rfl,h1,h2⟩:=hp
         have HE:Hid (jlist (jvalue n) true (rst s (k+1))=.er r):=hide (by rw[HEQ.out,hx];rfl)
         clear m7 hx hK
         go_wp2_with fail
         rename_i heq
         cases heq
         exact⟨rfl,MP.er HE.out HMc1.out h1 h2⟩
        | ok jv r=>
         rw[hx]at hp
         obtain⟨k7,u,rfl,⟨x,rfl,rfl,hxi,hxf⟩,h1,h2⟩:=hp
         obtain⟨c0,c1,c2,c3,n3,d3,c4,n4,d4,hcx⟩:=cells5 x
         have HCx:=hide hcx
         rw[hcx]
         clear hcx
         have HX:Hid (jvalue n (rst s kv)=.ok x.v (rst s k7)):=hide (by rw[hx,h2])
         have Hc1:=hide h1
         have HXi1:=hide hxi
         have HXf:Hid (∀g∈JFoot x,base≤g∧(Value.slice A l.length c).ownBlock≠some g∧(Value.slice B kb.length d).ownBlock≠some g):=hide (fun g hg=>by
          have h3:=(hxf g hg).1
          have h4:=HMd.out.size
          have h5:=HBs.out
          refine⟨by omega,fun e=> ?_,fun e=> ?_⟩
          ·have:=(HSd.out.lo.lt g e).2;omega
          ·have:=(HSd.out.ko.lt g e).2;omega)
         have HF1:Hid (∀g∈JFoot x,g < w7.heap.size):=hide (fun g hg=>(hxf g hg).2)
         clear m7 hx h1 h2 hxi hxf hjv1
         refine hK.out _ _ trivial (fun _=> ?_)
         clear hK K
         try simp only[pu]
         refine wpAnyH_ready (rs:= [9]) (by kernel_rfl) (by simp) ?_
         refine AllReadyH.cons rfl (fun K hK=> ?_) AllReadyH.nil
         go_simp
         refine hK.out _ _ trivial (fun _=> ?_)
         clear hK K
         try simp only[pu]
         have HMa2:=hide (HMc1.out.alloc (.cells zcs 43))
         have HSa2:=hide (HSc1.out.mod ((Mod.refl [] w7).alloc (.cells zcs 43)) (by simp))
         have Ha2:=hide (Hc1.out.mod ((Mod.refl [] w7).alloc (.cells zcs 43)) (by simp))
         have HZ2:=hide (Blk.new w7 43 zcs)
         have qa2:=HSc1.out.v.lt
         have qb2:(w7.alloc (.cells zcs 43)).cell? ⟨vb,3,none⟩=some (.slice A l.length c):=HSa2.out.v.cell 3
         unfold zcs at qb2
         have HX2:=hide (JIn.new ((Mod.refl [] w7).alloc (.cells zcs 43)) HXi1.out)
         have HF2:Hid (∀g∈JFoot x,g < (w7.alloc (.cells zcs 43)).heap.size):=hide (fun g hg=>Nat.lt_of_lt_of_le (HF1.out g hg) ((Mod.refl [] w7).alloc (.cells zcs 43)).size)
         obtain⟨g',c',w8,hrun,hv8,hgv,⟨cur,hcb,hcs⟩,hfin⟩:=HSa2.out.val (W:=w) HVb.out (by have:=HMa2.out.size;have:=HBs.out;omega) HLl.out x HX2.out (fun g hg=>⟨(HXf.out g hg).1,HF2.out g hg,(HXf.out g hg).2⟩) (w7.heap.size) HZ2.out
         have HRun:=hide hrun
         have HFin:=hide hfin
         have q8:w8.cell? ⟨vb,3,none⟩=some (.slice A l.length c):=hv8.cell 3
         have f8:w8.frozen? ⟨vb,3,none⟩=false:=hv8.frozen 3
         have l8:=hv8.lt
         have hvg:¬vb=g':=fun e=>hgv e.symm
         have lg:=hcb.lt
         have hll:((l.length:Nat):Int) < (l.length:Int)+1:=by omega
         have b0:∃u,w8.cell? ⟨g',l.length * 5,none⟩=some u:=⟨_,(hcb.cell _).trans (Array.getElem?_eq_getElem (by omega))⟩
         obtain⟨u0,b0⟩:=b0
         have e0:w8.frozen? ⟨g',l.length * 5,none⟩=false:=hcb.frozen _
         have b1:∃u,w8.cell? ⟨g',l.length * 5+1,none⟩=some u:=⟨_,(hcb.cell _).trans (Array.getElem?_eq_getElem (by omega))⟩
         obtain⟨u1,b1⟩:=b1
         have e1:w8.frozen? ⟨g',l.length * 5+1,none⟩=false:=hcb.frozen _
         have b2:∃u,w8.cell? ⟨g',l.length * 5+2,none⟩=some u:=⟨_,(hcb.cell _).trans (Array.getElem?_eq_getElem (by omega))⟩
         obtain⟨u2,b2⟩:=b2
         have e2:w8.frozen? ⟨g',l.length * 5+2,none⟩=false:=hcb.frozen _
         have b3:∃u,w8.cell? ⟨g',l.length * 5+3,none⟩=some u:=⟨_,(hcb.cell _).trans (Array.getElem?_eq_getElem (by omega))⟩
         obtain⟨u3,b3⟩:=b3
         have e3:w8.frozen? ⟨g',l.length * 5+3,none⟩=false:=hcb.frozen _
         have b4:∃u,w8.cell? ⟨g',l.length * 5+4,none⟩=some u:=⟨_,(hcb.cell _).trans (Array.getElem?_eq_getElem (by omega))⟩
         obtain⟨u4,b4⟩:=b4
         have e4:w8.frozen? ⟨g',l.length * 5+4,none⟩=false:=hcb.frozen _
         clear hrun hfin hv8 hcb hcs
         refine wpAnyH_ready (rs:= [10]) (by kernel_rfl) (by simp) ?_
         refine AllReadyH.cons rfl (fun K hK=> ?_) AllReadyH.nil
         refine step_append_runL rfl (.tmp 53) (.tmp 59) 40 40 rfl (.slice A l.length c) (.slice (some ⟨w7.heap.size,0,none⟩) 1 1) (by simp[Act.eval]) (by simp[Act.eval]) HRun.out ?_
         refine hK.out _ _ trivial (fun _=> ?_)
         clear hK K
         try simp only[pu]
         refine take_dst (i:=13) (v:= ?_) 62 rfl rfl (by kernel_rfl) (by kernel_rfl) (by kernel_rfl) (fun _ _ _ h=>h) (Or.inl ⟨by rfl,?_⟩) trivial ?_
         rotate_left
         ·intro wq hSw
          go_simp
          first | done | (with_reducible rfl)
         simp only[pu]
         refine take_dst (i:=14) (v:= ?_) 63 rfl rfl (by kernel_rfl) (by kernel_rfl) (by kernel_rfl) (fun _ _ _ h=>h) (Or.inl ⟨by rfl,?_⟩) trivial ?_
         rotate_left
         ·intro wq hSw
          go_simp
          first | done | (with_reducible rfl)
         simp only[pu]
         refine take_dst (i:=11) (v:= ?_) 61 rfl rfl (by kernel_rfl) (by kernel_rfl) (by kernel_rfl) (fun _ _ _ h=>h) (Or.inl ⟨by rfl,?_⟩) trivial ?_
         rotate_left
         ·intro wq hSw
          go_simp
          first | done | (with_reducible rfl)
         simp only[pu]
         refine wpAnyH_ready (rs:= [12,15]) (by kernel_rfl) (by simp) ?_
         refine AllReadyH.cons rfl (fun K hK=> ?_) (AllReadyH.cons rfl (fun K hK=> ?_) AllReadyH.nil)
         ·go_simp
          refine hK.out _ _ trivial (fun _=> ?_)
          clear hK K
          try simp only[pu]
          refine wpAnyH_ready (rs:= [15]) (by kernel_rfl) (by simp) ?_
          refine AllReadyH.cons rfl (fun K hK=> ?_) AllReadyH.nil
          go_simp
          refine hK.out _ _ trivial (fun _=> ?_)
          clear hK K
          try simp only[pu]
          refine wpAnyH_done (by kernel_rfl) ?_ _
          go_wp2_with fail
          go_meet
          obtain⟨hms9,hmod9,hblk9⟩:=HFin.out _ (.inl (by rw[HCx.out]))
          exact⟨k7,c',some ⟨g',0,none⟩,x,HX,hide (hmod9 _ HMa2.out (by have:=HBs.out;omega) (by simp)),hide ⟨hblk9 p _ _ HPb.out (by have:=HVp.out;omega) Ha2.out.blk,Ha2.out.le,Ha2.out.small⟩,hide hms9⟩
         ·go_simp
          refine hK.out _ _ trivial (fun _=> ?_)
          clear hK K
          try simp only[pu]
          refine wpAnyH_ready (rs:= [12]) (by kernel_rfl) (by simp) ?_
          refine AllReadyH.cons rfl (fun K hK=> ?_) AllReadyH.nil
          go_simp
          refine hK.out _ _ trivial (fun _=> ?_)
          clear hK K
          try simp only[pu]
          refine wpAnyH_done (by kernel_rfl) ?_ _
          go_wp2_with fail
          go_meet
          obtain⟨hms9,hmod9,hblk9⟩:=HFin.out _ (.inr (by rw[HCx.out]))
          exact⟨k7,c',some ⟨g',0,none⟩,x,HX,hide (hmod9 _ HMa2.out (by have:=HBs.out;omega) (by simp)),hide ⟨hblk9 p _ _ HPb.out (by have:=HVp.out;omega) Ha2.out.blk,Ha2.out.le,Ha2.out.small⟩,hide hms9⟩
       ·go_simp
        refine hK.out _ _ trivial (fun _=> ?_)
        clear hK K
        try simp only[pu]
        have HMa3:=hide (HMd.out.alloc (.cells zcs 43))
        have HSa3:=hide (HSd.out.mod ((Mod.refl [] w6.drew).alloc (.cells zcs 43)) (by simp))
        have Ha3:=hide (Hd.out.mod ((Mod.refl [] w6.drew).alloc (.cells zcs 43)) (by simp))
        have HZ3:=hide (Blk.new w6.drew 43 zcs)
        have qa3:=HSd.out.v.lt
        have qb3:(w6.drew.alloc (.cells zcs 43)).cell? ⟨vb,3,none⟩=some (.slice A l.length c):=HSa3.out.v.cell 3
        unfold zcs at qb3
        refine wpAnyH_ready (rs:= [7]) (by kernel_rfl) (by simp) ?_
        refine AllReadyH.cons rfl (fun K hK=> ?_) AllReadyH.nil
        go_simp
        have hjv4:JVars p (w6.drew.alloc (.cells zcs 43)):=HJ0.out.mod HMa3.out (by have:=HPb.out;have:=HBs.out;omega) (by simp;have:=HVp.out;omega)
        refine(HVl.out _ _ _ _ Ha3.out hjv4).mono ?_
        rintro e w7 ⟨m7,hp⟩
        have HMc4:=hide (HMa3.out.trans m7 (by simp))
        have HSc4:=hide (HSa3.out.mod m7 (by simp;have:=HPb.out;have:=HVp.out;omega))
        have HZc4:=hide (m7.blk HZ3.out (by have:=Ha3.out.blk.lt;have:=HBs.out;have:=HPb.out;have:=HMa3.out.size;simp;simp at *;omega))
        cases hx:jvalue n (rst s kv)with
        | er r=>
         rw[hx]at hp
         obtain⟨k7,rfl,h1,h2⟩:=hp
         have HE:Hid (jlist (jvalue n) true (rst s (k+1))=.er r):=hide (by rw[HEQ.out,hx];rfl)
         clear m7 hx hK
         go_wp2_with fail
         rename_i heq
         cases heq
         exact⟨rfl,MP.er HE.out HMc4.out h1 h2⟩
        | ok jv r=>
         rw[hx]at hp
         obtain⟨k7,u,rfl,⟨x,rfl,rfl,hxi,hxf⟩,h1,h2⟩:=hp
         obtain⟨c0,c1,c2,c3,n3,d3,c4,n4,d4,hcx⟩:=cells5 x
         have HCx:=hide hcx
         rw[hcx]
         clear hcx
         have HX:Hid (jvalue n (rst s kv)=.ok x.v (rst s k7)):=hide (by rw[hx,h2])
         have Hc4:=hide h1
         have HXi4:=hide hxi
         have HXf:Hid (∀g∈JFoot x,base≤g∧(Value.slice A l.length c).ownBlock≠some g∧(Value.slice B kb.length d).ownBlock≠some g):=hide (fun g hg=>by
          have h3:=(hxf g hg).1
          have h4:=HMa3.out.size
          have h5:=HBs.out
          refine⟨by omega,fun e=> ?_,fun e=> ?_⟩
          ·have:=(HSa3.out.lo.lt g e).2;omega
          ·have:=(HSa3.out.ko.lt g e).2;omega)
         have HF4:Hid (∀g∈JFoot x,g < w7.heap.size):=hide (fun g hg=>(hxf g hg).2)
         clear m7 hx h1 h2 hxi hxf hjv4
         refine hK.out _ _ trivial (fun _=> ?_)
         clear hK K
         try simp only[pu]
         obtain⟨g',c',w8,hrun,hv8,hgv,⟨cur,hcb,hcs⟩,hfin⟩:=HSc4.out.val (W:=w) HVb.out (by have:=HMc4.out.size;have:=HBs.out;omega) HLl.out x HXi4.out (fun g hg=>⟨(HXf.out g hg).1,HF4.out g hg,(HXf.out g hg).2⟩) (w6.drew.heap.size) HZc4.out
         have HRun:=hide hrun
         have HFin:=hide hfin
         have q8:w8.cell? ⟨vb,3,none⟩=some (.slice A l.length c):=hv8.cell 3
         have f8:w8.frozen? ⟨vb,3,none⟩=false:=hv8.frozen 3
         have l8:=hv8.lt
         have hvg:¬vb=g':=fun e=>hgv e.symm
         have lg:=hcb.lt
         have hll:((l.length:Nat):Int) < (l.length:Int)+1:=by omega
         have b0:∃u,w8.cell? ⟨g',l.length * 5,none⟩=some u:=⟨_,(hcb.cell _).trans (Array.getElem?_eq_getElem (by omega))⟩
         obtain⟨u0,b0⟩:=b0
         have e0:w8.frozen? ⟨g',l.length * 5,none⟩=false:=hcb.frozen _
         have b1:∃u,w8.cell? ⟨g',l.length * 5+1,none⟩=some u:=⟨_,(hcb.cell _).trans (Array.getElem?_eq_getElem (by omega))⟩
         obtain⟨u1,b1⟩:=b1
         have e1:w8.frozen? ⟨g',l.length * 5+1,none⟩=false:=hcb.frozen _
         have b2:∃u,w8.cell? ⟨g',l.length * 5+2,none⟩=some u:=⟨_,(hcb.cell _).trans (Array.getElem?_eq_getElem (by omega))⟩
         obtain⟨u2,b2⟩:=b2
         have e2:w8.frozen? ⟨g',l.length * 5+2,none⟩=false:=hcb.frozen _
         have b3:∃u,w8.cell? ⟨g',l.length * 5+3,none⟩=some u:=⟨_,(hcb.cell _).trans (Array.getElem?_eq_getElem (by omega))⟩
         obtain⟨u3,b3⟩:=b3
         have e3:w8.frozen? ⟨g',l.length * 5+3,none⟩=false:=hcb.frozen _
         have b4:∃u,w8.cell? ⟨g',l.length * 5+4,none⟩=some u:=⟨_,(hcb.cell _).trans (Array.getElem?_eq_getElem (by omega))⟩
         obtain⟨u4,b4⟩:=b4
         have e4:w8.frozen? ⟨g',l.length * 5+4,none⟩=false:=hcb.frozen _
         clear hrun hfin hv8 hcb hcs
         refine wpAnyH_ready (rs:= [10]) (by kernel_rfl) (by simp) ?_
         refine AllReadyH.cons rfl (fun K hK=> ?_) AllReadyH.nil
         refine step_append_runL rfl (.tmp 53) (.tmp 59) 40 40 rfl (.slice A l.length c) (.slice (some ⟨w6.drew.heap.size,0,none⟩) 1 1) (by simp[Act.eval]) (by simp[Act.eval]) HRun.out ?_
         refine hK.out _ _ trivial (fun _=> ?_)
         clear hK K
         try simp only[pu]
         refine take_dst (i:=13) (v:= ?_) 62 rfl rfl (by kernel_rfl) (by kernel_rfl) (by kernel_rfl) (fun _ _ _ h=>h) (Or.inl ⟨by rfl,?_⟩) trivial ?_
         rotate_left
         ·intro wq hSw
          go_simp
          first | done | (with_reducible rfl)
         simp only[pu]
         refine take_dst (i:=14) (v:= ?_) 63 rfl rfl (by kernel_rfl) (by kernel_rfl) (by kernel_rfl) (fun _ _ _ h=>h) (Or.inl ⟨by rfl,?_⟩) trivial ?_
         rotate_left
         ·intro wq hSw
          go_simp
          first | done | (with_reducible rfl)
         simp only[pu]
         refine take_dst (i:=11) (v:= ?_) 61 rfl rfl (by kernel_rfl) (by kernel_rfl) (by kernel_rfl) (fun _ _ _ h=>h) (Or.inl ⟨by rfl,?_⟩) trivial ?_
         rotate_left
         ·intro wq hSw
          go_simp
          first | done | (with_reducible rfl)
         simp only[pu]
         refine wpAnyH_ready (rs:= [12,15]) (by kernel_rfl) (by simp) ?_
         refine AllReadyH.cons rfl (fun K hK=> ?_) (AllReadyH.cons rfl (fun K hK=> ?_) AllReadyH.nil)
         ·go_simp
          refine hK.out _ _ trivial (fun _=> ?_)
          clear hK K
          try simp only[pu]
          refine wpAnyH_ready (rs:= [15]) (by kernel_rfl) (by simp) ?_
          refine AllReadyH.cons rfl (fun K hK=> ?_) AllReadyH.nil
          go_simp
          refine hK.out _ _ trivial (fun _=> ?_)
          clear hK K
          try simp only[pu]
          refine wpAnyH_done (by kernel_rfl) ?_ _
          go_wp2_with fail
          go_meet
          obtain⟨hms9,hmod9,hblk9⟩:=HFin.out _ (.inl (by rw[HCx.out]))
          exact⟨k7,c',some ⟨g',0,none⟩,x,HX,hide (hmod9 _ HMc4.out (by have:=HBs.out;omega) (by simp)),hide ⟨hblk9 p _ _ HPb.out (by have:=HVp.out;omega) Hc4.out.blk,Hc4.out.le,Hc4.out.small⟩,hide hms9⟩
         ·go_simp
          refine hK.out _ _ trivial (fun _=> ?_)
          clear hK K
          try simp only[pu]
          refine wpAnyH_ready (rs:= [12]) (by kernel_rfl) (by simp) ?_
          refine AllReadyH.cons rfl (fun K hK=> ?_) AllReadyH.nil
          go_simp
          refine hK.out _ _ trivial (fun _=> ?_)
          clear hK K
          try simp only[pu]
          refine wpAnyH_done (by kernel_rfl) ?_ _
          go_wp2_with fail
          go_meet
          obtain⟨hms9,hmod9,hblk9⟩:=HFin.out _ (.inr (by rw[HCx.out]))
          exact⟨k7,c',some ⟨g',0,none⟩,x,HX,hide (hmod9 _ HMc4.out (by have:=HBs.out;omega) (by simp)),hide ⟨hblk9 p _ _ HPb.out (by have:=HVp.out;omega) Hc4.out.blk,Hc4.out.le,Hc4.out.small⟩,hide hms9⟩
      ·go_simp
       have hjv5:JVars p w6.drew:=HJ0.out.mod HMd.out (by have:=HPb.out;have:=HBs.out;omega) (by simp;have:=HVp.out;omega)
       refine(HVl.out _ _ _ _ Hd.out hjv5).mono ?_
       rintro e w7 ⟨m7,hp⟩
       have HMc5:=hide (HMd.out.trans m7 (by simp))
       have HSc5:=hide (HSd.out.mod m7 (by simp;have:=HPb.out;have:=HVp.out;omega))
       cases hx:jvalue n (rst s kv)with
       | er r=>
        rw[hx]at hp
        obtain⟨k7,rfl,h1,h2⟩:=hp
        have HE:Hid (jlist (jvalue n) true (rst s (k+1))=.er r):=hide (by rw[HEQ.out,hx];rfl)
        clear m7 hx hK
        go_wp2_with fail
        rename_i heq
        cases heq
        exact⟨rfl,MP.er HE.out HMc5.out h1 h2⟩
       | ok jv r=>
        rw[hx]at hp
        obtain⟨k7,u,rfl,⟨x,rfl,rfl,hxi,hxf⟩,h1,h2⟩:=hp
        obtain⟨c0,c1,c2,c3,n3,d3,c4,n4,d4,hcx⟩:=cells5 x
        have HCx:=hide hcx
        rw[hcx]
        clear hcx
        have HX:Hid (jvalue n (rst s kv)=.ok x.v (rst s k7)):=hide (by rw[hx,h2])
        have Hc5:=hide h1
        have HXi5:=hide hxi
        have HXf:Hid (∀g∈JFoot x,base≤g∧(Value.slice A l.length c).ownBlock≠some g∧(Value.slice B kb.length d).ownBlock≠some g):=hide (fun g hg=>by
         have h3:=(hxf g hg).1
         have h4:=HMd.out.size
         have h5:=HBs.out
         refine⟨by omega,fun e=> ?_,fun e=> ?_⟩
         ·have:=(HSd.out.lo.lt g e).2;omega
         ·have:=(HSd.out.ko.lt g e).2;omega)
        have HF5:Hid (∀g∈JFoot x,g < w7.heap.size):=hide (fun g hg=>(hxf g hg).2)
        clear m7 hx h1 h2 hxi hxf hjv5
        refine hK.out _ _ trivial (fun _=> ?_)
        clear hK K
        try simp only[pu]
        have qv5:w7.cell? ⟨vb,3,none⟩=some (.slice A l.length c):=HSc5.out.v.cell 3
        refine wpAnyH_ready (rs:= [3,9]) (by kernel_rfl) (by simp) ?_
        refine AllReadyH.cons rfl (fun K hK=> ?_) (AllReadyH.cons rfl (fun K hK=> ?_) AllReadyH.nil)
        ·go_simp
         refine hK.out _ _ trivial (fun _=> ?_)
         clear hK K
         try simp only[pu]
         refine take_dst (i:=8) (v:= ?_) 58 rfl rfl (by kernel_rfl) (by kernel_rfl) (by kernel_rfl) (fun _ _ _ h=>h) (Or.inl ⟨by rfl,?_⟩) trivial ?_
         rotate_left
         ·intro wq hSw
          go_simp
          first | done | (with_reducible rfl)
         simp only[pu]
         refine wpAnyH_ready (rs:= [9]) (by kernel_rfl) (by simp) ?_
         refine AllReadyH.cons rfl (fun K hK=> ?_) AllReadyH.nil
         go_simp
         refine hK.out _ _ trivial (fun _=> ?_)
         clear hK K
         try simp only[pu]
         have HMa6:=hide (HMc5.out.alloc (.cells zcs 43))
         have HSa6:=hide (HSc5.out.mod ((Mod.refl [] w7).alloc (.cells zcs 43)) (by simp))
         have Ha6:=hide (Hc5.out.mod ((Mod.refl [] w7).alloc (.cells zcs 43)) (by simp))
         have HZ6:=hide (Blk.new w7 43 zcs)
         have qa6:=HSc5.out.v.lt
         have qb6:(w7.alloc (.cells zcs 43)).cell? ⟨vb,3,none⟩=some (.slice A l.length c):=HSa6.out.v.cell 3
         unfold zcs at qb6
         have HX6:=hide (JIn.new ((Mod.refl [] w7).alloc (.cells zcs 43)) HXi5.out)
         have HF6:Hid (∀g∈JFoot x,g < (w7.alloc (.cells zcs 43)).heap.size):=hide (fun g hg=>Nat.lt_of_lt_of_le (HF5.out g hg) ((Mod.refl [] w7).alloc (.cells zcs 43)).size)
         obtain⟨g',c',w8,hrun,hv8,hgv,⟨cur,hcb,hcs⟩,hfin⟩:=HSa6.out.val (W:=w) HVb.out (by have:=HMa6.out.size;have:=HBs.out;omega) HLl.out x HX6.out (fun g hg=>⟨(HXf.out g hg).1,HF6.out g hg,(HXf.out g hg).2⟩) (w7.heap.size) HZ6.out
         have HRun:=hide hrun
         have HFin:=hide hfin
         have q8:w8.cell? ⟨vb,3,none⟩=some (.slice A l.length c):=hv8.cell 3
         have f8:w8.frozen? ⟨vb,3,none⟩=false:=hv8.frozen 3
         have l8:=hv8.lt
         have hvg:¬vb=g':=fun e=>hgv e.symm
         have lg:=hcb.lt
         have hll:((l.length:Nat):Int) < (l.length:Int)+1:=by omega
         have b0:∃u,w8.cell? ⟨g',l.length * 5,none⟩=some u:=⟨_,(hcb.cell _).trans (Array.getElem?_eq_getElem (by omega))⟩
         obtain⟨u0,b0⟩:=b0
         have e0:w8.frozen? ⟨g',l.length * 5,none⟩=false:=hcb.frozen _
         have b1:∃u,w8.cell? ⟨g',l.length * 5+1,none⟩=some u:=⟨_,(hcb.cell _).trans (Array.getElem?_eq_getElem (by omega))⟩
         obtain⟨u1,b1⟩:=b1
         have e1:w8.frozen? ⟨g',l.length * 5+1,none⟩=false:=hcb.frozen _
         have b2:∃u,w8.cell? ⟨g',l.length * 5+2,none⟩=some u:=⟨_,(hcb.cell _).trans (Array.getElem?_eq_getElem (by omega))⟩
         obtain⟨u2,b2⟩:=b2
         have e2:w8.frozen? ⟨g',l.length * 5+2,none⟩=false:=hcb.frozen _
         have b3:∃u,w8.cell? ⟨g',l.length * 5+3,none⟩=some u:=⟨_,(hcb.cell _).trans (Array.getElem?_eq_getElem (by omega))⟩
         obtain⟨u3,b3⟩:=b3
         have e3:w8.frozen? ⟨g',l.length * 5+3,none⟩=false:=hcb.frozen _
         have b4:∃u,w8.cell? ⟨g',l.length * 5+4,none⟩=some u:=⟨_,(hcb.cell _).trans (Array.getElem?_eq_getElem (by omega))⟩
         obtain⟨u4,b4⟩:=b4
         have e4:w8.frozen? ⟨g',l.length * 5+4,none⟩=false:=hcb.frozen _
         clear hrun hfin hv8 hcb hcs
         refine wpAnyH_ready (rs:= [10]) (by kernel_rfl) (by simp) ?_
         refine AllReadyH.cons rfl (fun K hK=> ?_) AllReadyH.nil
         refine step_append_runL rfl (.tmp 53) (.tmp 59) 40 40 rfl (.slice A l.length c) (.slice (some ⟨w7.heap.size,0,none⟩) 1 1) (by simp[Act.eval]) (by simp[Act.eval]) HRun.out ?_
         refine hK.out _ _ trivial (fun _=> ?_)
         clear hK K
         try simp only[pu]
         refine take_dst (i:=13) (v:= ?_) 62 rfl rfl (by kernel_rfl) (by kernel_rfl) (by kernel_rfl) (fun _ _ _ h=>h) (Or.inl ⟨by rfl,?_⟩) trivial ?_
         rotate_left
         ·intro wq hSw
          go_simp
          first | done | (with_reducible rfl)
         simp only[pu]
         refine take_dst (i:=14) (v:= ?_) 63 rfl rfl (by kernel_rfl) (by kernel_rfl) (by kernel_rfl) (fun _ _ _ h=>h) (Or.inl ⟨by rfl,?_⟩) trivial ?_
         rotate_left
         ·intro wq hSw
          go_simp
          first | done | (with_reducible rfl)
         simp only[pu]
         refine take_dst (i:=11) (v:= ?_) 61 rfl rfl (by kernel_rfl) (by kernel_rfl) (by kernel_rfl) (fun _ _ _ h=>h) (Or.inl ⟨by rfl,?_⟩) trivial ?_
         rotate_left
         ·intro wq hSw
          go_simp
          first | done | (with_reducible rfl)
         simp only[pu]
         refine wpAnyH_ready (rs:= [12,15]) (by kernel_rfl) (by simp) ?_
         refine AllReadyH.cons rfl (fun K hK=> ?_) (AllReadyH.cons rfl (fun K hK=> ?_) AllReadyH.nil)
         ·go_simp
          refine hK.out _ _ trivial (fun _=> ?_)
          clear hK K
          try simp only[pu]
          refine wpAnyH_ready (rs:= [15]) (by kernel_rfl) (by simp) ?_
          refine AllReadyH.cons rfl (fun K hK=> ?_) AllReadyH.nil
          go_simp
          refine hK.out _ _ trivial (fun _=> ?_)
          clear hK K
          try simp only[pu]
          refine wpAnyH_done (by kernel_rfl) ?_ _
          go_wp2_with fail
          go_meet
          obtain⟨hms9,hmod9,hblk9⟩:=HFin.out _ (.inl (by rw[HCx.out]))
          exact⟨k7,c',some ⟨g',0,none⟩,x,HX,hide (hmod9 _ HMa6.out (by have:=HBs.out;omega) (by simp)),hide ⟨hblk9 p _ _ HPb.out (by have:=HVp.out;omega) Ha6.out.blk,Ha6.out.le,Ha6.out.small⟩,hide hms9⟩
         ·go_simp
          refine hK.out _ _ trivial (fun _=> ?_)
          clear hK K
          try simp only[pu]
          refine wpAnyH_ready (rs:= [12]) (by kernel_rfl) (by simp) ?_
          refine AllReadyH.cons rfl (fun K hK=> ?_) AllReadyH.nil
          go_simp
          refine hK.out _ _ trivial (fun _=> ?_)
          clear hK K
          try simp only[pu]
          refine wpAnyH_done (by kernel_rfl) ?_ _
          go_wp2_with fail
          go_meet
          obtain⟨hms9,hmod9,hblk9⟩:=HFin.out _ (.inr (by rw[HCx.out]))
          exact⟨k7,c',some ⟨g',0,none⟩,x,HX,hide (hmod9 _ HMa6.out (by have:=HBs.out;omega) (by simp)),hide ⟨hblk9 p _ _ HPb.out (by have:=HVp.out;omega) Ha6.out.blk,Ha6.out.le,Ha6.out.small⟩,hide hms9⟩
        ·go_simp
         refine hK.out _ _ trivial (fun _=> ?_)
         clear hK K
         try simp only[pu]
         have HMa7:=hide (HMc5.out.alloc (.cells zcs 43))
         have HSa7:=hide (HSc5.out.mod ((Mod.refl [] w7).alloc (.cells zcs 43)) (by simp))
         have Ha7:=hide (Hc5.out.mod ((Mod.refl [] w7).alloc (.cells zcs 43)) (by simp))
         have HZ7:=hide (Blk.new w7 43 zcs)
         have qa7:=HSc5.out.v.lt
         have qb7:(w7.alloc (.cells zcs 43)).cell? ⟨vb,3,none⟩=some (.slice A l.length c):=HSa7.out.v.cell 3
         unfold zcs at qb7
         have HX7:=hide (JIn.new ((Mod.refl [] w7).alloc (.cells zcs 43)) HXi5.out)
         have HF7:Hid (∀g∈JFoot x,g < (w7.alloc (.cells zcs 43)).heap.size):=hide (fun g hg=>Nat.lt_of_lt_of_le (HF5.out g hg) ((Mod.refl [] w7).alloc (.cells zcs 43)).size)
         refine wpAnyH_ready (rs:= [3]) (by kernel_rfl) (by simp) ?_
         refine AllReadyH.cons rfl (fun K hK=> ?_) AllReadyH.nil
         go_simp
         refine hK.out _ _ trivial (fun _=> ?_)
         clear hK K
         try simp only[pu]
         refine take_dst (i:=8) (v:= ?_) 58 rfl rfl (by kernel_rfl) (by kernel_rfl) (by kernel_rfl) (fun _ _ _ h=>h) (Or.inl ⟨by rfl,?_⟩) trivial ?_
         rotate_left
         ·intro wq hSw
          go_simp
          first | done | (with_reducible rfl)
         simp only[pu]
         obtain⟨g',c',w8,hrun,hv8,hgv,⟨cur,hcb,hcs⟩,hfin⟩:=HSa7.out.val (W:=w) HVb.out (by have:=HMa7.out.size;have:=HBs.out;omega) HLl.out x HX7.out (fun g hg=>⟨(HXf.out g hg).1,HF7.out g hg,(HXf.out g hg).2⟩) (w7.heap.size) HZ7.out
         have HRun:=hide hrun
         have HFin:=hide hfin
         have q8:w8.cell? ⟨vb,3,none⟩=some (.slice A l.length c):=hv8.cell 3
         have f8:w8.frozen? ⟨vb,3,none⟩=false:=hv8.frozen 3
         have l8:=hv8.lt
         have hvg:¬vb=g':=fun e=>hgv e.symm
         have lg:=hcb.lt
         have hll:((l.length:Nat):Int) < (l.length:Int)+1:=by omega
         have b0:∃u,w8.cell? ⟨g',l.length * 5,none⟩=some u:=⟨_,(hcb.cell _).trans (Array.getElem?_eq_getElem (by omega))⟩
         obtain⟨u0,b0⟩:=b0
         have e0:w8.frozen? ⟨g',l.length * 5,none⟩=false:=hcb.frozen _
         have b1:∃u,w8.cell? ⟨g',l.length * 5+1,none⟩=some u:=⟨_,(hcb.cell _).trans (Array.getElem?_eq_getElem (by omega))⟩
         obtain⟨u1,b1⟩:=b1
         have e1:w8.frozen? ⟨g',l.length * 5+1,none⟩=false:=hcb.frozen _
         have b2:∃u,w8.cell? ⟨g',l.length * 5+2,none⟩=some u:=⟨_,(hcb.cell _).trans (Array.getElem?_eq_getElem (by omega))⟩
         obtain⟨u2,b2⟩:=b2
         have e2:w8.frozen? ⟨g',l.length * 5+2,none⟩=false:=hcb.frozen _
         have b3:∃u,w8.cell? ⟨g',l.length * 5+3,none⟩=some u:=⟨_,(hcb.cell _).trans (Array.getElem?_eq_getElem (by omega))⟩
         obtain⟨u3,b3⟩:=b3
         have e3:w8.frozen? ⟨g',l.length * 5+3,none⟩=false:=hcb.frozen _
         have b4:∃u,w8.cell? ⟨g',l.length * 5+4,none⟩=some u:=⟨_,(hcb.cell _).trans (Array.getElem?_eq_getElem (by omega))⟩
         obtain⟨u4,b4⟩:=b4
         have e4:w8.frozen? ⟨g',l.length * 5+4,none⟩=false:=hcb.frozen _
         clear hrun hfin hv8 hcb hcs
         refine wpAnyH_ready (rs:= [10]) (by kernel_rfl) (by simp) ?_
         refine AllReadyH.cons rfl (fun K hK=> ?_) AllReadyH.nil
         refine step_append_runL rfl (.tmp 53) (.tmp 59) 40 40 rfl (.slice A l.length c) (.slice (some ⟨w7.heap.size,0,none⟩) 1 1) (by simp[Act.eval]) (by simp[Act.eval]) HRun.out ?_
         refine hK.out _ _ trivial (fun _=> ?_)
         clear hK K
         try simp only[pu]
         refine take_dst (i:=13) (v:= ?_) 62 rfl rfl (by kernel_rfl) (by kernel_rfl) (by kernel_rfl) (fun _ _ _ h=>h) (Or.inl ⟨by rfl,?_⟩) trivial ?_
         rotate_left
         ·intro wq hSw
          go_simp
          first | done | (with_reducible rfl)
         simp only[pu]
         refine take_dst (i:=14) (v:= ?_) 63 rfl rfl (by kernel_rfl) (by kernel_rfl) (by kernel_rfl) (fun _ _ _ h=>h) (Or.inl ⟨by rfl,?_⟩) trivial ?_
         rotate_left
         ·intro wq hSw
          go_simp
          first | done | (with_reducible rfl)
         simp only[pu]
         refine take_dst (i:=11) (v:= ?_) 61 rfl rfl (by kernel_rfl) (by kernel_rfl) (by kernel_rfl) (fun _ _ _ h=>h) (Or.inl ⟨by rfl,?_⟩) trivial ?_
         rotate_left
         ·intro wq hSw
          go_simp
          first | done | (with_reducible rfl)
         simp only[pu]
         refine wpAnyH_ready (rs:= [12,15]) (by kernel_rfl) (by simp) ?_
         refine AllReadyH.cons rfl (fun K hK=> ?_) (AllReadyH.cons rfl (fun K hK=> ?_) AllReadyH.nil)
         ·go_simp
          refine hK.out _ _ trivial (fun _=> ?_)
          clear hK K
          try simp only[pu]
          refine wpAnyH_ready (rs:= [15]) (by kernel_rfl) (by simp) ?_
          refine AllReadyH.cons rfl (fun K hK=> ?_) AllReadyH.nil
          go_simp
          refine hK.out _ _ trivial (fun _=> ?_)
          clear hK K
          try simp only[pu]
          refine wpAnyH_done (by kernel_rfl) ?_ _
          go_wp2_with fail
          go_meet
          obtain⟨hms9,hmod9,hblk9⟩:=HFin.out _ (.inl (by rw[HCx.out]))
          exact⟨k7,c',some ⟨g',0,none⟩,x,HX,hide (hmod9 _ HMa7.out (by have:=HBs.out;omega) (by simp)),hide ⟨hblk9 p _ _ HPb.out (by have:=HVp.out;omega) Ha7.out.blk,Ha7.out.le,Ha7.out.small⟩,hide hms9⟩
         ·go_simp
          refine hK.out _ _ trivial (fun _=> ?_)
          clear hK K
          try simp only[pu]
          refine wpAnyH_ready (rs:= [12]) (by kernel_rfl) (by simp) ?_
          refine AllReadyH.cons rfl (fun K hK=> ?_) AllReadyH.nil
          go_simp
          refine hK.out _ _ trivial (fun _=> ?_)
          clear hK K
          try simp only[pu]
          refine wpAnyH_done (by kernel_rfl) ?_ _
          go_wp2_with fail
          go_meet
          obtain⟨hms9,hmod9,hblk9⟩:=HFin.out _ (.inr (by rw[HCx.out]))
          exact⟨k7,c',some ⟨g',0,none⟩,x,HX,hide (hmod9 _ HMa7.out (by have:=HBs.out;omega) (by simp)),hide ⟨hblk9 p _ _ HPb.out (by have:=HVp.out;omega) Ha7.out.blk,Ha7.out.le,Ha7.out.small⟩,hide hms9⟩
      ·go_simp
       refine hK.out _ _ trivial (fun _=> ?_)
       clear hK K
       try simp only[pu]
       have HMa8:=hide (HMd.out.alloc (.cells zcs 43))
       have HSa8:=hide (HSd.out.mod ((Mod.refl [] w6.drew).alloc (.cells zcs 43)) (by simp))
       have Ha8:=hide (Hd.out.mod ((Mod.refl [] w6.drew).alloc (.cells zcs 43)) (by simp))
       have HZ8:=hide (Blk.new w6.drew 43 zcs)
       have qa8:=HSd.out.v.lt
       have qb8:(w6.drew.alloc (.cells zcs 43)).cell? ⟨vb,3,none⟩=some (.slice A l.length c):=HSa8.out.v.cell 3
       unfold zcs at qb8
       refine wpAnyH_ready (rs:= [3,7]) (by kernel_rfl) (by simp) ?_
       refine AllReadyH.cons rfl (fun K hK=> ?_) (AllReadyH.cons rfl (fun K hK=> ?_) AllReadyH.nil)
       ·go_simp
        refine hK.out _ _ trivial (fun _=> ?_)
        clear hK K
        try simp only[pu]
        refine take_dst (i:=8) (v:= ?_) 58 rfl rfl (by kernel_rfl) (by kernel_rfl) (by kernel_rfl) (fun _ _ _ h=>h) (Or.inl ⟨by rfl,?_⟩) trivial ?_
        rotate_left
        ·intro wq hSw
         go_simp
         first | done | (with_reducible rfl)
        simp only[pu]
        refine wpAnyH_ready (rs:= [7]) (by kernel_rfl) (by simp) ?_
        refine AllReadyH.cons rfl (fun K hK=> ?_) AllReadyH.nil
        go_simp
        have hjv9:JVars p (w6.drew.alloc (.cells zcs 43)):=HJ0.out.mod HMa8.out (by have:=HPb.out;have:=HBs.out;omega) (by simp;have:=HVp.out;omega)
        refine(HVl.out _ _ _ _ Ha8.out hjv9).mono ?_
        rintro e w7 ⟨m7,hp⟩
        have HMc9:=hide (HMa8.out.trans m7 (by simp))
        have HSc9:=hide (HSa8.out.mod m7 (by simp;have:=HPb.out;have:=HVp.out;omega))
        have HZc9:=hide (m7.blk HZ8.out (by have:=Ha8.out.blk.lt;have:=HBs.out;have:=HPb.out;have:=HMa8.out.size;simp;simp at *;omega))
        cases hx:jvalue n (rst s kv)with
        | er r=>
         rw[hx]at hp
         obtain⟨k7,rfl,h1,h2⟩:=hp
         have HE:Hid (jlist (jvalue n) true (rst s (k+1))=.er r):=hide (by rw[HEQ.out,hx];rfl)
         clear m7 hx hK
         go_wp2_with fail
         rename_i heq
         cases heq
         exact⟨rfl,MP.er HE.out HMc9.out h1 h2⟩
        | ok jv r=>
         rw[hx]at hp
         obtain⟨k7,u,rfl,⟨x,rfl,rfl,hxi,hxf⟩,h1,h2⟩:=hp
         obtain⟨c0,c1,c2,c3,n3,d3,c4,n4,d4,hcx⟩:=cells5 x
         have HCx:=hide hcx
         rw[hcx]
         clear hcx
         have HX:Hid (jvalue n (rst s kv)=.ok x.v (rst s k7)):=hide (by rw[hx,h2])
         have Hc9:=hide h1
         have HXi9:=hide hxi
         have HXf:Hid (∀g∈JFoot x,base≤g∧(Value.slice A l.length c).ownBlock≠some g∧(Value.slice B kb.length d).ownBlock≠some g):=hide (fun g hg=>by
          have h3:=(hxf g hg).1
          have h4:=HMa8.out.size
          have h5:=HBs.out
          refine⟨by omega,fun e=> ?_,fun e=> ?_⟩
          ·have:=(HSa8.out.lo.lt g e).2;omega
          ·have:=(HSa8.out.ko.lt g e).2;omega)
         have HF9:Hid (∀g∈JFoot x,g < w7.heap.size):=hide (fun g hg=>(hxf g hg).2)
         clear m7 hx h1 h2 hxi hxf hjv9
         refine hK.out _ _ trivial (fun _=> ?_)
         clear hK K
         try simp only[pu]
         obtain⟨g',c',w8,hrun,hv8,hgv,⟨cur,hcb,hcs⟩,hfin⟩:=HSc9.out.val (W:=w) HVb.out (by have:=HMc9.out.size;have:=HBs.out;omega) HLl.out x HXi9.out (fun g hg=>⟨(HXf.out g hg).1,HF9.out g hg,(HXf.out g hg).2⟩) (w6.drew.heap.size) HZc9.out
         have HRun:=hide hrun
         have HFin:=hide hfin
         have q8:w8.cell? ⟨vb,3,none⟩=some (.slice A l.length c):=hv8.cell 3
         have f8:w8.frozen? ⟨vb,3,none⟩=false:=hv8.frozen 3
         have l8:=hv8.lt
         have hvg:¬vb=g':=fun e=>hgv e.symm
         have lg:=hcb.lt
         have hll:((l.length:Nat):Int) < (l.length:Int)+1:=by omega
         have b0:∃u,w8.cell? ⟨g',l.length * 5,none⟩=some u:=⟨_,(hcb.cell _).trans (Array.getElem?_eq_getElem (by omega))⟩
         obtain⟨u0,b0⟩:=b0
         have e0:w8.frozen? ⟨g',l.length * 5,none⟩=false:=hcb.frozen _
         have b1:∃u,w8.cell? ⟨g',l.length * 5+1,none⟩=some u:=⟨_,(hcb.cell _).trans (Array.getElem?_eq_getElem (by omega))⟩
         obtain⟨u1,b1⟩:=b1
         have e1:w8.frozen? ⟨g',l.length * 5+1,none⟩=false:=hcb.frozen _
         have b2:∃u,w8.cell? ⟨g',l.length * 5+2,none⟩=some u:=⟨_,(hcb.cell _).trans (Array.getElem?_eq_getElem (by omega))⟩
         obtain⟨u2,b2⟩:=b2
         have e2:w8.frozen? ⟨g',l.length * 5+2,none⟩=false:=hcb.frozen _
         have b3:∃u,w8.cell? ⟨g',l.length * 5+3,none⟩=some u:=⟨_,(hcb.cell _).trans (Array.getElem?_eq_getElem (by omega))⟩
         obtain⟨u3,b3⟩:=b3
         have e3:w8.frozen? ⟨g',l.length * 5+3,none⟩=false:=hcb.frozen _
         have b4:∃u,w8.cell? ⟨g',l.length * 5+4,none⟩=some u:=⟨_,(hcb.cell _).trans (Array.getElem?_eq_getElem (by omega))⟩
         obtain⟨u4,b4⟩:=b4
         have e4:w8.frozen? ⟨g',l.length * 5+4,none⟩=false:=hcb.frozen _
         clear hrun hfin hv8 hcb hcs
         refine wpAnyH_ready (rs:= [10]) (by kernel_rfl) (by simp) ?_
         refine AllReadyH.cons rfl (fun K hK=> ?_) AllReadyH.nil
         refine step_append_runL rfl (.tmp 53) (.tmp 59) 40 40 rfl (.slice A l.length c) (.slice (some ⟨w6.drew.heap.size,0,none⟩) 1 1) (by simp[Act.eval]) (by simp[Act.eval]) HRun.out ?_
         refine hK.out _ _ trivial (fun _=> ?_)
         clear hK K
         try simp only[pu]
         refine take_dst (i:=13) (v:= ?_) 62 rfl rfl (by kernel_rfl) (by kernel_rfl) (by kernel_rfl) (fun _ _ _ h=>h) (Or.inl ⟨by rfl,?_⟩) trivial ?_
         rotate_left
         ·intro wq hSw
          go_simp
          first | done | (with_reducible rfl)
         simp only[pu]
         refine take_dst (i:=14) (v:= ?_) 63 rfl rfl (by kernel_rfl) (by kernel_rfl) (by kernel_rfl) (fun _ _ _ h=>h) (Or.inl ⟨by rfl,?_⟩) trivial ?_
         rotate_left
         ·intro wq hSw
          go_simp
          first | done | (with_reducible rfl)
         simp only[pu]
         refine take_dst (i:=11) (v:= ?_) 61 rfl rfl (by kernel_rfl) (by kernel_rfl) (by kernel_rfl) (fun _ _ _ h=>h) (Or.inl ⟨by rfl,?_⟩) trivial ?_
         rotate_left
         ·intro wq hSw
          go_simp
          first | done | (with_reducible rfl)
         simp only[pu]
         refine wpAnyH_ready (rs:= [12,15]) (by kernel_rfl) (by simp) ?_
         refine AllReadyH.cons rfl (fun K hK=> ?_) (AllReadyH.cons rfl (fun K hK=> ?_) AllReadyH.nil)
         ·go_simp
          refine hK.out _ _ trivial (fun _=> ?_)
          clear hK K
          try simp only[pu]
          refine wpAnyH_ready (rs:= [15]) (by kernel_rfl) (by simp) ?_
          refine AllReadyH.cons rfl (fun K hK=> ?_) AllReadyH.nil
          go_simp
          refine hK.out _ _ trivial (fun _=> ?_)
          clear hK K
          try simp only[pu]
          refine wpAnyH_done (by kernel_rfl) ?_ _
          go_wp2_with fail
          go_meet
          obtain⟨hms9,hmod9,hblk9⟩:=HFin.out _ (.inl (by rw[HCx.out]))
          exact⟨k7,c',some ⟨g',0,none⟩,x,HX,hide (hmod9 _ HMc9.out (by have:=HBs.out;omega) (by simp)),hide ⟨hblk9 p _ _ HPb.out (by have:=HVp.out;omega) Hc9.out.blk,Hc9.out.le,Hc9.out.small⟩,hide hms9⟩
         ·go_simp
          refine hK.out _ _ trivial (fun _=> ?_)
          clear hK K
          try simp only[pu]
          refine wpAnyH_ready (rs:= [12]) (by kernel_rfl) (by simp) ?_
          refine AllReadyH.cons rfl (fun K hK=> ?_) AllReadyH.nil
          go_simp
          refine hK.out _ _ trivial (fun _=> ?_)
          clear hK K
          try simp only[pu]
          refine wpAnyH_done (by kernel_rfl) ?_ _
          go_wp2_with fail
          go_meet
          obtain⟨hms9,hmod9,hblk9⟩:=HFin.out _ (.inr (by rw[HCx.out]))
          exact⟨k7,c',some ⟨g',0,none⟩,x,HX,hide (hmod9 _ HMc9.out (by have:=HBs.out;omega) (by simp)),hide ⟨hblk9 p _ _ HPb.out (by have:=HVp.out;omega) Hc9.out.blk,Hc9.out.le,Hc9.out.small⟩,hide hms9⟩
       ·go_simp
        have hjv10:JVars p (w6.drew.alloc (.cells zcs 43)):=HJ0.out.mod HMa8.out (by have:=HPb.out;have:=HBs.out;omega) (by simp;have:=HVp.out;omega)
        refine(HVl.out _ _ _ _ Ha8.out hjv10).mono ?_
        rintro e w7 ⟨m7,hp⟩
        have HMc10:=hide (HMa8.out.trans m7 (by simp))
        have HSc10:=hide (HSa8.out.mod m7 (by simp;have:=HPb.out;have:=HVp.out;omega))
        have HZc10:=hide (m7.blk HZ8.out (by have:=Ha8.out.blk.lt;have:=HBs.out;have:=HPb.out;have:=HMa8.out.size;simp;simp at *;omega))
        cases hx:jvalue n (rst s kv)with
        | er r=>
         rw[hx]at hp
         obtain⟨k7,rfl,h1,h2⟩:=hp
         have HE:Hid (jlist (jvalue n) true (rst s (k+1))=.er r):=hide (by rw[HEQ.out,hx];rfl)
         clear m7 hx hK
         go_wp2_with fail
         rename_i heq
         cases heq
         exact⟨rfl,MP.er HE.out HMc10.out h1 h2⟩
        | ok jv r=>
         rw[hx]at hp
         obtain⟨k7,u,rfl,⟨x,rfl,rfl,hxi,hxf⟩,h1,h2⟩:=hp
         obtain⟨c0,c1,c2,c3,n3,d3,c4,n4,d4,hcx⟩:=cells5 x
         have HCx:=hide hcx
         rw[hcx]
         clear hcx
         have HX:Hid (jvalue n (rst s kv)=.ok x.v (rst s k7)):=hide (by rw[hx,h2])
         have Hc10:=hide h1
         have HXi10:=hide hxi
         have HXf:Hid (∀g∈JFoot x,base≤g∧(Value.slice A l.length c).ownBlock≠some g∧(Value.slice B kb.length d).ownBlock≠some g):=hide (fun g hg=>by
          have h3:=(hxf g hg).1
          have h4:=HMa8.out.size
          have h5:=HBs.out
          refine⟨by omega,fun e=> ?_,fun e=> ?_⟩
          ·have:=(HSa8.out.lo.lt g e).2;omega
          ·have:=(HSa8.out.ko.lt g e).2;omega)
         have HF10:Hid (∀g∈JFoot x,g < w7.heap.size):=hide (fun g hg=>(hxf g hg).2)
         clear m7 hx h1 h2 hxi hxf hjv10
         refine hK.out _ _ trivial (fun _=> ?_)
         clear hK K
         try simp only[pu]
         have qv10:w7.cell? ⟨vb,3,none⟩=some (.slice A l.length c):=HSc10.out.v.cell 3
         refine wpAnyH_ready (rs:= [3]) (by kernel_rfl) (by simp) ?_
         refine AllReadyH.cons rfl (fun K hK=> ?_) AllReadyH.nil
         go_simp
         refine hK.out _ _ trivial (fun _=> ?_)
         clear hK K
         try simp only[pu]
         refine take_dst (i:=8) (v:= ?_) 58 rfl rfl (by kernel_rfl) (by kernel_rfl) (by kernel_rfl) (fun _ _ _ h=>h) (Or.inl ⟨by rfl,?_⟩) trivial ?_
         rotate_left
         ·intro wq hSw
          go_simp
          first | done | (with_reducible rfl)
         simp only[pu]
         obtain⟨g',c',w8,hrun,hv8,hgv,⟨cur,hcb,hcs⟩,hfin⟩:=HSc10.out.val (W:=w) HVb.out (by have:=HMc10.out.size;have:=HBs.out;omega) HLl.out x HXi10.out (fun g hg=>⟨(HXf.out g hg).1,HF10.out g hg,(HXf.out g hg).2⟩) (w6.drew.heap.size) HZc10.out
         have HRun:=hide hrun
         have HFin:=hide hfin
         have q8:w8.cell? ⟨vb,3,none⟩=some (.slice A l.length c):=hv8.cell 3
         have f8:w8.frozen? ⟨vb,3,none⟩=false:=hv8.frozen 3
         have l8:=hv8.lt
         have hvg:¬vb=g':=fun e=>hgv e.symm
         have lg:=hcb.lt
         have hll:((l.length:Nat):Int) < (l.length:Int)+1:=by omega
         have b0:∃u,w8.cell? ⟨g',l.length * 5,none⟩=some u:=⟨_,(hcb.cell _).trans (Array.getElem?_eq_getElem (by omega))⟩
         obtain⟨u0,b0⟩:=b0
         have e0:w8.frozen? ⟨g',l.length * 5,none⟩=false:=hcb.frozen _
         have b1:∃u,w8.cell? ⟨g',l.length * 5+1,none⟩=some u:=⟨_,(hcb.cell _).trans (Array.getElem?_eq_getElem (by omega))⟩
         obtain⟨u1,b1⟩:=b1
         have e1:w8.frozen? ⟨g',l.length * 5+1,none⟩=false:=hcb.frozen _
         have b2:∃u,w8.cell? ⟨g',l.length * 5+2,none⟩=some u:=⟨_,(hcb.cell _).trans (Array.getElem?_eq_getElem (by omega))⟩
         obtain⟨u2,b2⟩:=b2
         have e2:w8.frozen? ⟨g',l.length * 5+2,none⟩=false:=hcb.frozen _
         have b3:∃u,w8.cell? ⟨g',l.length * 5+3,none⟩=some u:=⟨_,(hcb.cell _).trans (Array.getElem?_eq_getElem (by omega))⟩
         obtain⟨u3,b3⟩:=b3
         have e3:w8.frozen? ⟨g',l.length * 5+3,none⟩=false:=hcb.frozen _
         have b4:∃u,w8.cell? ⟨g',l.length * 5+4,none⟩=some u:=⟨_,(hcb.cell _).trans (Array.getElem?_eq_getElem (by omega))⟩
         obtain⟨u4,b4⟩:=b4
         have e4:w8.frozen? ⟨g',l.length * 5+4,none⟩=false:=hcb.frozen _
         clear hrun hfin hv8 hcb hcs
         refine wpAnyH_ready (rs:= [10]) (by kernel_rfl) (by simp) ?_
         refine AllReadyH.cons rfl (fun K hK=> ?_) AllReadyH.nil
         refine step_append_runL rfl (.tmp 53) (.tmp 59) 40 40 rfl (.slice A l.length c) (.slice (some ⟨w6.drew.heap.size,0,none⟩) 1 1) (by simp[Act.eval]) (by simp[Act.eval]) HRun.out ?_
         refine hK.out _ _ trivial (fun _=> ?_)
         clear hK K
         try simp only[pu]
         refine take_dst (i:=13) (v:= ?_) 62 rfl rfl (by kernel_rfl) (by kernel_rfl) (by kernel_rfl) (fun _ _ _ h=>h) (Or.inl ⟨by rfl,?_⟩) trivial ?_
         rotate_left
         ·intro wq hSw
          go_simp
          first | done | (with_reducible rfl)
         simp only[pu]
         refine take_dst (i:=14) (v:= ?_) 63 rfl rfl (by kernel_rfl) (by kernel_rfl) (by kernel_rfl) (fun _ _ _ h=>h) (Or.inl ⟨by rfl,?_⟩) trivial ?_
         rotate_left
         ·intro wq hSw
          go_simp
          first | done | (with_reducible rfl)
         simp only[pu]
         refine take_dst (i:=11) (v:= ?_) 61 rfl rfl (by kernel_rfl) (by kernel_rfl) (by kernel_rfl) (fun _ _ _ h=>h) (Or.inl ⟨by rfl,?_⟩) trivial ?_
         rotate_left
         ·intro wq hSw
          go_simp
          first | done | (with_reducible rfl)
         simp only[pu]
         refine wpAnyH_ready (rs:= [12,15]) (by kernel_rfl) (by simp) ?_
         refine AllReadyH.cons rfl (fun K hK=> ?_) (AllReadyH.cons rfl (fun K hK=> ?_) AllReadyH.nil)
         ·go_simp
          refine hK.out _ _ trivial (fun _=> ?_)
          clear hK K
          try simp only[pu]
          refine wpAnyH_ready (rs:= [15]) (by kernel_rfl) (by simp) ?_
          refine AllReadyH.cons rfl (fun K hK=> ?_) AllReadyH.nil
          go_simp
          refine hK.out _ _ trivial (fun _=> ?_)
          clear hK K
          try simp only[pu]
          refine wpAnyH_done (by kernel_rfl) ?_ _
          go_wp2_with fail
          go_meet
          obtain⟨hms9,hmod9,hblk9⟩:=HFin.out _ (.inl (by rw[HCx.out]))
          exact⟨k7,c',some ⟨g',0,none⟩,x,HX,hide (hmod9 _ HMc10.out (by have:=HBs.out;omega) (by simp)),hide ⟨hblk9 p _ _ HPb.out (by have:=HVp.out;omega) Hc10.out.blk,Hc10.out.le,Hc10.out.small⟩,hide hms9⟩
         ·go_simp
          refine hK.out _ _ trivial (fun _=> ?_)
          clear hK K
          try simp only[pu]
          refine wpAnyH_ready (rs:= [12]) (by kernel_rfl) (by simp) ?_
          refine AllReadyH.cons rfl (fun K hK=> ?_) AllReadyH.nil
          go_simp
          refine hK.out _ _ trivial (fun _=> ?_)
          clear hK K
          try simp only[pu]
          refine wpAnyH_done (by kernel_rfl) ?_ _
          go_wp2_with fail
          go_meet
          obtain⟨hms9,hmod9,hblk9⟩:=HFin.out _ (.inr (by rw[HCx.out]))
          exact⟨k7,c',some ⟨g',0,none⟩,x,HX,hide (hmod9 _ HMc10.out (by have:=HBs.out;omega) (by simp)),hide ⟨hblk9 p _ _ HPb.out (by have:=HVp.out;omega) Hc10.out.blk,Hc10.out.le,Hc10.out.small⟩,hide hms9⟩
     case rest=>
      obtain⟨k7,c',A',x,HX,hm7,h7,hms7⟩:=hcut
      have HT7:=hide (fun w' (h':Rd w' p s k7)=>by
       have:=take_any w' p k7 s ⟨#[44,125]⟩ h'
       rw[sep125_in]at this
       exact this)
      have hcv:(convert 100 9 (.slice (some ⟨wc.heap.size,0,none⟩) 2 2)).run Tryz.prog (wc.alloc (.cells #[.int .u8 44,.int .u8 125] 5))=.ok (.string ⟨#[44,125]⟩) (wc.alloc (.cells #[.int .u8 44,.int .u8 125] 5)):=
       conv_bytes _ _ [44,125] [] 2 (Blk.new wc _ _)
      have HMa:=hide (hm7.out.alloc (.cells #[.int .u8 44,.int .u8 125] 5))
      have AL:=(Mod.refl [] wc).alloc (.cells #[.int .u8 44,.int .u8 125] 5)
      have HSa:=hide (hms7.out.mod AL (by simp))
      have Ha:=hide (h7.out.mod AL (by simp))
      have hk7:kv≤k7:=by
       have:=(HGd.out.at_ (rst s kv)).le HX.out
       rw[rst_len s h7.out.le,rst_len s HKv.out]at this
       have:=h7.out.le
       have:=HKv.out
       omega
      have HK7:=hide hk7
      clear HMd HSd Hd HM9 HS9 H9 AL hm7 hms7 h7 hk7
      go_wp2_with fail
      refine(HT7.out _ Ha.out).mono ?_
      rintro e w9 ⟨m9,hp⟩
      have HM10:=hide (HMa.out.trans m9 (by simp))
      have HS10:=hide (HSa.out.mod m9 (by simp;have:=HPb.out;have:=HVp.out;omega))
      have HJ10:=hide (HJ0.out.mod HM10.out (by have:=HPb.out;have:=HBs.out;omega) (by simp;have:=HVp.out;omega))
      clear hcv m9
      cases hx:jtake (fun c=>c==44 || c==125) (rst s k7)with
      | er r=>
       rw[hx]at hp
       obtain⟨k8,rfl,h1,h2⟩:=hp
       have HE:Hid (jlist (jvalue n) true (rst s (k+1))=.er r):=hide (by rw[HEQ.out,HX.out];simp only[PR.bind];rw[hx])
       clear hx
       go_wp2_with fail
       rename_i heq
       cases heq
       exact⟨rfl,MP.er HE.out HM10.out h1 h2⟩
      | ok c9 r=>
       rw[hx]at hp
       obtain⟨k8,u,rfl,rfl,h1,h2⟩:=hp
       have hk8:k7+1≤k8:=by
        obtain⟨e1,_⟩:=take_ok hx
        have e2:=congrArg List.length e1
        rw[List.length_cons,←h2,rst_len s h1.le,rst_len s Ha.out.le]at e2
        have:=h1.le
        have:=Ha.out.le
        omega
       have hH:Hid (jlist (jvalue n) true (rst s (k+1))=if(c9==125)=true then .ok (JN.vs l++ [x.v],(ks++ [kk])) (rst s k8)else(jmanyT (jvalue n) true (rst s k8)).bind fun y r=> .ok (JN.vs l++ (x.v ::y.1),ks++ (kk ::y.2)) r):=hide (by rw[HEQ.out,HX.out];simp only[PR.bind];rw[hx,h2])
       have H10:=hide h1
       have HK8:=hide hk8
       clear hx h1 h2 hk8
       have hvs:JN.vs (l++ [x])=JN.vs l++ [x.v]:=by rw[JN.vs_app];rfl
       have hll:(l++ [x]).length=l.length+1:=by simp
       by_cases hc9:c9=125
       ·have HE:Hid (jlist (jvalue n) true (rst s (k+1))=.ok (JN.vs l++ [x.v],(ks++ [kk])) (rst s k8)):=hide (by rw[hH.out,if_pos (by rw[hc9];rfl)])
        have g1:((c9.toNat:Int)==125)=true:=by rw[hc9];rfl
        have g2:(c9.toNat==125)=true:=by rw[hc9];rfl
        have hb1:(l++ [x]).length≤jmax:=by have:=HLl.out;unfold jmax;omega
        have hb2:kb.length≤jmax:=by have:=HKl9.out;unfold jmax;omega
        obtain⟨j1,j2⟩:=HS10.out.jin hb1 hb2
        have HJi:=hide j1
        have HJf:=hide j2
        have HVs:=hide hvs
        clear hc9 hb1 hb2 j1 j2 hvs hll
        go_wp2_with fail
        first | refine⟨rfl,_,results_none rfl _ _ _,?_⟩ | refine bodyPost_ret (results_none rfl _ _ _) rfl ?_
        exact MP.ok HE.out HM10.out H10.out rfl HS10.out.v HVs.out HKb9.out HJi.out (fun g hg=>by have:=HJf.out g hg;have hb:=HBs.out;exact⟨by omega,this.2⟩)
       ·have HN:Hid (jlist (jvalue n) true (rst s (k+1))=(jmanyT (jvalue n) true (rst s k8)).bind fun y r=> .ok (JN.vs (l++ [x])++ y.1,(ks++ [kk])++ y.2) r):=hide (by
         rw[hH.out,if_neg (by simpa using hc9),hvs]
         simp only[List.append_assoc,List.singleton_append,List.cons_append,List.nil_append])
        have hn9:c9.toNat≠125:=fun e=>hc9 (UInt8.toNat_inj.1 (by rw[e];rfl))
        have g1:((c9.toNat:Int)==125)=false:=by rw[beq_eq_false_iff_ne];omega
        have g2:(c9.toNat==125)=false:=by rw[beq_eq_false_iff_ne];exact hn9
        clear hc9 hn9 hvs
        go_wp2_with fail
        have hk8:=HK8.out
        have hk7:=HK7.out
        have hkj:=HKj9.out
        have hkl9:=HKlen.out
        have hle:=H10.out.le
        refine⟨?rel,?measure⟩
        case rel=>exact⟨k8,c',d,A',B,l++ [x],(ks++ [kk]),by rw[hll];omega,by simp;omega,HM10,H10,by rw[←HKb9.out];exact HS10,HJ10,by exact HN⟩
        case measure=>
         have e:atOf p w9=k8:=by
          unfold atOf
          rw[H10.out.blk.cell 1]
          rfl
         rw[HA.out,e]
         omega
theorem not_head {l:List UInt8} {c:UInt8} {b:Nat} (h:¬l.head? =some c) (hb:(l.head?.getD 0).toNat=b) (hc:c≠0):b≠c.toNat:=by
 rintro rfl
 cases l with
 | nil=>
  simp only[List.head?_nil,Option.getD_none]at hb
  exact hc (UInt8.toNat_inj.1 hb.symm)
 | cons d t=>
  simp only[List.head?_cons,Option.getD_some]at hb h
  exact h (by rw[UInt8.toNat_inj.1 hb])
theorem value_zero:ValueOk 0:=by
 intro w p k s h hj
 have hpw:=h.blk.lt
 have HM1:=hide ((Mod.refl [p] w).alloc (.cells #[.int .i64 0,.int .i64 0,.string ⟨#[]⟩,.slice none 0 0,.slice none 0 0] 43))
 have H1:=hide (h.mod ((Mod.refl [] w).alloc (.cells #[.int .i64 0,.int .i64 0,.string ⟨#[]⟩,.slice none 0 0,.slice none 0 0] 43)) (by simp))
 have HSp:=hide (fun w' k' (h':Rd w' p s k')=>space_any w' p k' s h')
 have HNx:=hide (fun w' k' (h':Rd w' p s k')=>next_mod w' p k' s h')
 clear h hj hpw
 go_enter Tryz.func111,Tryz.ntmps111
 go_wp2_with fail
 refine(HSp.out _ _ H1.out).mono ?_
 rintro e w2 ⟨rfl,m2,k2,hr2,hq2⟩
 have HM3:=hide ((HM1.out.trans m2 (by simp)).alloc (.cells #[.int .i64 0,.int .i64 0,.string ⟨#[]⟩,.slice none 0 0,.slice none 0 0] 43))
 have H3:=hide (hr2.mod ((Mod.refl [] w2).alloc (.cells #[.int .i64 0,.int .i64 0,.string ⟨#[]⟩,.slice none 0 0,.slice none 0 0] 43)) (by simp))
 have HE:Hid (jvalue 0 (rst s k)=.er (rst s k2)):=hide (by rw[jvalue,hq2])
 clear m2 hr2 hq2
 go_wp2_with fail
 refine(HNx.out _ _ H3.out).mono ?_
 rintro e w4 ⟨rfl,m4,hr4⟩
 have HM4:=hide (HM3.out.trans m4 (by simp))
 have H4:=hide hr4
 clear m4 hr4
 go_wp2_with fail
 refine(fail_any _ p k2 s H4.out).mono ?_
 rintro e w5 ⟨rfl,rfl⟩
 go_wp2_with fail
 rename_i heq
 cases heq
 exact⟨rfl,RP.er HE.out HM4.out H4.out.le rfl⟩
theorem value_succ (m:Nat) (hm:m < 8) (hV:ValueOk m):ValueOk (m+1):=by
 intro w p k s h hj
 have hpw:=h.blk.lt
 have HPw:=hide hpw
 obtain⟨RB,hRB⟩:∃RB,w.heap.size=RB:=⟨_,rfl⟩
 have HRw:=hide hRB
 have HRp:Hid (RB∉ [p]):=hide (by simp;omega)
 have HM1:=hide ((Mod.refl [p] w).alloc (.cells #[.int .i64 0,.int .i64 0,.string ⟨#[]⟩,.slice none 0 0,.slice none 0 0] 43))
 have H1:=hide (h.mod ((Mod.refl [] w).alloc (.cells #[.int .i64 0,.int .i64 0,.string ⟨#[]⟩,.slice none 0 0,.slice none 0 0] 43)) (by simp))
 have HR1:=hide (Blk.new w 43 #[.int .i64 0,.int .i64 0,.string ⟨#[]⟩,.slice none 0 0,.slice none 0 0])
 have HSp:=hide (fun w' k' (h':Rd w' p s k')=>space_any w' p k' s h')
 have HNx:=hide (fun w' k' (h':Rd w' p s k')=>next_mod w' p k' s h')
 have HJ0:=hide hj
 rw[hRB]at HR1
 have hd9:(9:Int) - ((m+1:Nat):Int)=8 - m:=by omega
 rw[hd9]
 have hd8:¬(8:Int) < 8 - m:=by omega
 clear h hj hpw hd9
 go_enter Tryz.func111,Tryz.ntmps111
 go_wp2_with fail
 refine(HSp.out _ _ H1.out).mono ?_
 rintro e w2 ⟨rfl,m2,k2,hr2,hq2⟩
 have HR2:=hide (m2.blk HR1.out HRp.out)
 have HQ2:=hide hq2
 obtain⟨VB,hVB⟩:∃VB,w2.heap.size=VB:=⟨_,rfl⟩
 have HVB:Hid (RB < VB):=hide (by rw[←hVB];exact HR2.out.lt)
 have HVp:Hid (VB∉ [p]):=hide (by have:=HVB.out;have:=HPw.out;have:=HRw.out;simp;omega)
 have HM3:=hide ((HM1.out.trans m2 (by simp)).alloc (.cells #[.int .i64 0,.int .i64 0,.string ⟨#[]⟩,.slice none 0 0,.slice none 0 0] 43))
 have H3:=hide (hr2.mod ((Mod.refl [] w2).alloc (.cells #[.int .i64 0,.int .i64 0,.string ⟨#[]⟩,.slice none 0 0,.slice none 0 0] 43)) (by simp))
 have HR3:=hide (HR2.out.alloc (.cells #[.int .i64 0,.int .i64 0,.string ⟨#[]⟩,.slice none 0 0,.slice none 0 0] 43))
 have HV3:=hide (Blk.new w2 43 #[.int .i64 0,.int .i64 0,.string ⟨#[]⟩,.slice none 0 0,.slice none 0 0])
 rw[hVB]at HV3
 clear m2 hr2 hq2 HM1 H1 HR1 hRB
 go_wp2_with fail
 refine(HNx.out _ _ H3.out).mono ?_
 rintro e w4 ⟨rfl,m4,hr4⟩
 have HM4:=hide (HM3.out.trans m4 (by simp))
 have H4:=hide hr4
 have HR4:=hide (m4.blk HR3.out (by simp))
 have HV4:=hide (m4.blk HV3.out (by simp))
 clear m4 hr4 HM3 H3 HR3 HV3 HR2 hVB
 by_cases hd:(rst s k2).head? =some 110
 ·have e0:((((some (110:UInt8)).getD 0).toNat:Nat):Int)=110:=rfl
  have HE0:Hid (jvalue (m+1) (rst s k)=((jword [110,117,108,108] (rst s k2)).bind fun _ r=> .ok (JV.mk 0 0 ⟨#[]⟩ [] []) r).bind fun v r=> .ok v (jsp r)):=hide (by
   rw[jvalue,←HQ2.out]
   unfold jval1
   simp only[hd]
   rfl)
  have hWl:(⟨#[110,117,108,108]⟩:ByteArray).data.toList= [110,117,108,108]:=rfl
  have hWd:=word_any _ p k2 s ⟨#[110,117,108,108]⟩ H4.out (by decide)
  rw[hWl]at hWd
  have HWd:=hide hWd
  clear hWd hWl
  rw[hd,e0]
  clear hd
  go_wp2_with fail
  refine HWd.out.mono ?_
  rintro e w5 ⟨m5,hp⟩
  have HM5:=hide (HM4.out.trans m5 (by simp))
  have HR5:=hide (m5.blk HR4.out HRp.out)
  have HV5:=hide (m5.blk HV4.out HVp.out)
  cases hx:jword [110,117,108,108] (rst s k2)with
  | er r=>
   rw[hx]at hp
   obtain⟨k3,rfl,h1,h2⟩:=hp
   have HE:Hid (jvalue (m+1) (rst s k)=.er r):=hide (by rw[HE0.out,hx];rfl)
   clear m5 hx
   go_wp2_with fail
   rename_i heq
   cases heq
   exact⟨rfl,RP.er HE.out HM5.out h1 h2⟩
  | ok q r=>
   rw[hx]at hp
   obtain⟨ky,u,rfl,rfl,h1,h2⟩:=hp
   have HEv:Hid (jvalue (m+1) (rst s k)=.ok (JN.mk 0 0 ⟨#[]⟩ none 0 [] none 0 []).v (jsp (rst s ky))):=hide (by rw[HE0.out,hx,h2];rfl)
   have H5:=hide h1
   clear m5 hx h1 h2
   obtain⟨Y,hY⟩:∃Y,w5=Y:=⟨_,rfl⟩
   subst hY
   have HMY:=HM5
   have HY:=H5
   have HV:=HV5
   have HRY:=HR5
   have HXi:Hid (JIn w5 (JN.mk 0 0 ⟨#[]⟩ none 0 [] none 0 [])):=hide (JIn.plain _ _ _ _)
   have HXf:Hid (∀g∈JFoot (JN.mk 0 0 ⟨#[]⟩ none 0 [] none 0 []),VB < g∧g < w5.heap.size):=hide (by intro g hg;simp[JFoot,JFoots]at hg)
   go_wp2_with fail
   refine(HSp.out _ _ HY.out).mono ?_
   rintro e Z ⟨rfl,mz,kz,hrz,hqz⟩
   have HMZ:=hide (HMY.out.trans mz (by simp))
   have HRZ:=hide (mz.blk HRY.out HRp.out)
   have HVZ:=hide (mz.blk HV.out HVp.out)
   have HXz:=hide (JIn.mod mz (fun g hg=>by have:=(HXf.out g hg).1;have:=HVB.out;have:=HPw.out;have:=HRw.out;simp;omega) HXi.out)
   have HEz:Hid (jvalue (m+1) (rst s k)=.ok (JN.mk 0 0 ⟨#[]⟩ none 0 [] none 0 []).v (rst s kz)):=hide (by rw[HEv.out,hqz])
   have HFz:Hid (∀g∈JFoot (JN.mk 0 0 ⟨#[]⟩ none 0 [] none 0 []),w.heap.size≤g∧g < Z.heap.size):=hide (fun g hg=>⟨by have:=(HXf.out g hg).1;have:=HVB.out;have:=HRw.out;omega,Nat.lt_of_lt_of_le (HXf.out g hg).2 mz.size⟩)
   have HFr:Hid (∀g∈JFoot (JN.mk 0 0 ⟨#[]⟩ none 0 [] none 0 []),g∉ [RB]):=hide (fun g hg=>by have:=(HXf.out g hg).1;have:=HVB.out;have:=HRw.out;simp;omega)
   have HZr:=hide hrz
   clear mz hrz hqz
   have z0:Z.cell? ⟨RB,0,none⟩=some (.int .i64 0):=HRZ.out.cell 0
   have zf0:Z.frozen? ⟨RB,0,none⟩=false:=HRZ.out.frozen 0
   have z1:Z.cell? ⟨RB,1,none⟩=some (.int .i64 0):=HRZ.out.cell 1
   have zf1:Z.frozen? ⟨RB,1,none⟩=false:=HRZ.out.frozen 1
   have z2:Z.cell? ⟨RB,2,none⟩=some (.string ⟨#[]⟩):=HRZ.out.cell 2
   have zf2:Z.frozen? ⟨RB,2,none⟩=false:=HRZ.out.frozen 2
   have z3:Z.cell? ⟨RB,3,none⟩=some (.slice none 0 0):=HRZ.out.cell 3
   have zf3:Z.frozen? ⟨RB,3,none⟩=false:=HRZ.out.frozen 3
   have z4:Z.cell? ⟨RB,4,none⟩=some (.slice none 0 0):=HRZ.out.cell 4
   have zf4:Z.frozen? ⟨RB,4,none⟩=false:=HRZ.out.frozen 4
   have zl:=HRZ.out.lt
   have v0:Z.cell? ⟨VB,0,none⟩=some (.int .i64 0):=HVZ.out.cell 0
   have vf0:Z.frozen? ⟨VB,0,none⟩=false:=HVZ.out.frozen 0
   have v1:Z.cell? ⟨VB,1,none⟩=some (.int .i64 0):=HVZ.out.cell 1
   have vf1:Z.frozen? ⟨VB,1,none⟩=false:=HVZ.out.frozen 1
   have v2:Z.cell? ⟨VB,2,none⟩=some (.string ⟨#[]⟩):=HVZ.out.cell 2
   have vf2:Z.frozen? ⟨VB,2,none⟩=false:=HVZ.out.frozen 2
   have v3:Z.cell? ⟨VB,3,none⟩=some (.slice none 0 0):=HVZ.out.cell 3
   have vf3:Z.frozen? ⟨VB,3,none⟩=false:=HVZ.out.frozen 3
   have v4:Z.cell? ⟨VB,4,none⟩=some (.slice none 0 0):=HVZ.out.cell 4
   have vf4:Z.frozen? ⟨VB,4,none⟩=false:=HVZ.out.frozen 4
   have vl:=HVZ.out.lt
   have HW:=hide (jsets_blk (JN.mk 0 0 ⟨#[]⟩ none 0 [] none 0 []).cells HRZ.out rfl (JN.mk 0 0 ⟨#[]⟩ none 0 [] none 0 []).cells_size)
   have HWm:=hide (jsets_mod Z RB (JN.mk 0 0 ⟨#[]⟩ none 0 [] none 0 []).cells)
   try unfold JN.cells at HW HWm
   go_wp2_with fail
   refine bodyPost_ret (results_cell_row rfl _ _ RB 43 (#[.int .i64 0,.int .i64 0,.string ⟨#[]⟩,.slice none 0 0,.slice none 0 0]) (0,0) _ rfl ?_ Tryz.underlying43 rfl (by kernel_rfl)) rfl ?_
   ·exact HW.out
   exact RP.ok HEz.out (HMZ.out.trans HWm.out (by simp only[List.mem_singleton];rintro _ rfl;right;have:=HRw.out;omega)) ⟨(JN.mk 0 0 ⟨#[]⟩ none 0 [] none 0 []),rfl,rfl,JIn.mod HWm.out HFr.out HXz.out,fun g hg=>⟨(HFz.out g hg).1,Nat.lt_of_lt_of_le (HFz.out g hg).2 HWm.out.size⟩⟩ (HZr.out.mod HWm.out (by have:=HRp.out;simp at this ⊢;omega)) rfl
 have hd110:=hd
 clear hd
 by_cases hd:(rst s k2).head? =some 102
 ·have e0:((((some (102:UInt8)).getD 0).toNat:Nat):Int)=102:=rfl
  have HE0:Hid (jvalue (m+1) (rst s k)=((jword [102,97,108,115,101] (rst s k2)).bind fun _ r=> .ok (JV.mk 1 0 ⟨#[]⟩ [] []) r).bind fun v r=> .ok v (jsp r)):=hide (by
   rw[jvalue,←HQ2.out]
   unfold jval1
   simp only[hd]
   rfl)
  have hWl:(⟨#[102,97,108,115,101]⟩:ByteArray).data.toList= [102,97,108,115,101]:=rfl
  have hWd:=word_any _ p k2 s ⟨#[102,97,108,115,101]⟩ H4.out (by decide)
  rw[hWl]at hWd
  have HWd:=hide hWd
  clear hWd hWl
  rw[hd,e0]
  clear hd
  go_wp2_with fail
  refine HWd.out.mono ?_
  rintro e w5 ⟨m5,hp⟩
  have HM5:=hide (HM4.out.trans m5 (by simp))
  have HR5:=hide (m5.blk HR4.out HRp.out)
  have HV5:=hide (m5.blk HV4.out HVp.out)
  cases hx:jword [102,97,108,115,101] (rst s k2)with
  | er r=>
   rw[hx]at hp
   obtain⟨k3,rfl,h1,h2⟩:=hp
   have HE:Hid (jvalue (m+1) (rst s k)=.er r):=hide (by rw[HE0.out,hx];rfl)
   clear m5 hx
   go_wp2_with fail
   rename_i heq
   cases heq
   exact⟨rfl,RP.er HE.out HM5.out h1 h2⟩
  | ok q r=>
   rw[hx]at hp
   obtain⟨ky,u,rfl,rfl,h1,h2⟩:=hp
   have HEv:Hid (jvalue (m+1) (rst s k)=.ok (JN.mk 1 0 ⟨#[]⟩ none 0 [] none 0 []).v (jsp (rst s ky))):=hide (by rw[HE0.out,hx,h2];rfl)
   have H5:=hide h1
   clear m5 hx h1 h2
   have v0:w5.cell? ⟨VB,0,none⟩=some (.int .i64 0):=HV5.out.cell 0
   have vf0:w5.frozen? ⟨VB,0,none⟩=false:=HV5.out.frozen 0
   have v1:w5.cell? ⟨VB,1,none⟩=some (.int .i64 0):=HV5.out.cell 1
   have vf1:w5.frozen? ⟨VB,1,none⟩=false:=HV5.out.frozen 1
   have v2:w5.cell? ⟨VB,2,none⟩=some (.string ⟨#[]⟩):=HV5.out.cell 2
   have vf2:w5.frozen? ⟨VB,2,none⟩=false:=HV5.out.frozen 2
   have v3:w5.cell? ⟨VB,3,none⟩=some (.slice none 0 0):=HV5.out.cell 3
   have vf3:w5.frozen? ⟨VB,3,none⟩=false:=HV5.out.frozen 3
   have v4:w5.cell? ⟨VB,4,none⟩=some (.slice none 0 0):=HV5.out.cell 4
   have vf4:w5.frozen? ⟨VB,4,none⟩=false:=HV5.out.frozen 4
   have vl:=HV5.out.lt
   go_wp2_with fail
   have m6:Mod [p] w (w5.setCell ⟨VB,0,none⟩ (.int .i64 1)):=HM5.out.setCell (p:=⟨VB,0,none⟩) (.inr (by have:=HVB.out;have:=HRw.out;show w.heap.size≤VB;omega)) _
   have hv6:Blk (w5.setCell ⟨VB,0,none⟩ (.int .i64 1)) VB 43 (JN.mk 1 0 ⟨#[]⟩ none 0 [] none 0 []).cells:=HV5.out.set_ 0 (.int .i64 1)
   have hr6:Blk (w5.setCell ⟨VB,0,none⟩ (.int .i64 1)) RB 43 #[.int .i64 0,.int .i64 0,.string ⟨#[]⟩,.slice none 0 0,.slice none 0 0]:=HR5.out.far (p:=⟨VB,0,none⟩) (by have:=HVB.out;show RB≠VB;omega) _
   have hy6:Rd (w5.setCell ⟨VB,0,none⟩ (.int .i64 1)) p s ky:=⟨H5.out.blk.far (p:=⟨VB,0,none⟩) (by have:=HVB.out;have:=HPw.out;have:=HRw.out;show p≠VB;omega) _,H5.out.le,H5.out.small⟩
   obtain⟨Y,hY⟩:∃Y,w5.setCell ⟨VB,0,none⟩ (.int .i64 1)=Y:=⟨_,rfl⟩
   rw[hY]at m6 hv6 hr6 hy6
   rw[hY]
   have HMY:=hide m6
   have HY:=hide hy6
   have HV:=hide hv6
   have HRY:=hide hr6
   have HXi:Hid (JIn Y (JN.mk 1 0 ⟨#[]⟩ none 0 [] none 0 [])):=hide (JIn.plain _ _ _ _)
   have HXf:Hid (∀g∈JFoot (JN.mk 1 0 ⟨#[]⟩ none 0 [] none 0 []),VB < g∧g < Y.heap.size):=hide (by intro g hg;simp[JFoot,JFoots]at hg)
   clear m6 hv6 hr6 hy6 hY v0 vf0 v1 vf1 v2 vf2 v3 vf3 v4 vf4 vl
   go_wp2_with fail
   refine(HSp.out _ _ HY.out).mono ?_
   rintro e Z ⟨rfl,mz,kz,hrz,hqz⟩
   have HMZ:=hide (HMY.out.trans mz (by simp))
   have HRZ:=hide (mz.blk HRY.out HRp.out)
   have HVZ:=hide (mz.blk HV.out HVp.out)
   have HXz:=hide (JIn.mod mz (fun g hg=>by have:=(HXf.out g hg).1;have:=HVB.out;have:=HPw.out;have:=HRw.out;simp;omega) HXi.out)
   have HEz:Hid (jvalue (m+1) (rst s k)=.ok (JN.mk 1 0 ⟨#[]⟩ none 0 [] none 0 []).v (rst s kz)):=hide (by rw[HEv.out,hqz])
   have HFz:Hid (∀g∈JFoot (JN.mk 1 0 ⟨#[]⟩ none 0 [] none 0 []),w.heap.size≤g∧g < Z.heap.size):=hide (fun g hg=>⟨by have:=(HXf.out g hg).1;have:=HVB.out;have:=HRw.out;omega,Nat.lt_of_lt_of_le (HXf.out g hg).2 mz.size⟩)
   have HFr:Hid (∀g∈JFoot (JN.mk 1 0 ⟨#[]⟩ none 0 [] none 0 []),g∉ [RB]):=hide (fun g hg=>by have:=(HXf.out g hg).1;have:=HVB.out;have:=HRw.out;simp;omega)
   have HZr:=hide hrz
   clear mz hrz hqz
   have z0:Z.cell? ⟨RB,0,none⟩=some (.int .i64 0):=HRZ.out.cell 0
   have zf0:Z.frozen? ⟨RB,0,none⟩=false:=HRZ.out.frozen 0
   have z1:Z.cell? ⟨RB,1,none⟩=some (.int .i64 0):=HRZ.out.cell 1
   have zf1:Z.frozen? ⟨RB,1,none⟩=false:=HRZ.out.frozen 1
   have z2:Z.cell? ⟨RB,2,none⟩=some (.string ⟨#[]⟩):=HRZ.out.cell 2
   have zf2:Z.frozen? ⟨RB,2,none⟩=false:=HRZ.out.frozen 2
   have z3:Z.cell? ⟨RB,3,none⟩=some (.slice none 0 0):=HRZ.out.cell 3
   have zf3:Z.frozen? ⟨RB,3,none⟩=false:=HRZ.out.frozen 3
   have z4:Z.cell? ⟨RB,4,none⟩=some (.slice none 0 0):=HRZ.out.cell 4
   have zf4:Z.frozen? ⟨RB,4,none⟩=false:=HRZ.out.frozen 4
   have zl:=HRZ.out.lt
   have v0:Z.cell? ⟨VB,0,none⟩=some (.int .i64 1):=HVZ.out.cell 0
   have vf0:Z.frozen? ⟨VB,0,none⟩=false:=HVZ.out.frozen 0
   have v1:Z.cell? ⟨VB,1,none⟩=some (.int .i64 0):=HVZ.out.cell 1
   have vf1:Z.frozen? ⟨VB,1,none⟩=false:=HVZ.out.frozen 1
   have v2:Z.cell? ⟨VB,2,none⟩=some (.string ⟨#[]⟩):=HVZ.out.cell 2
   have vf2:Z.frozen? ⟨VB,2,none⟩=false:=HVZ.out.frozen 2
   have v3:Z.cell? ⟨VB,3,none⟩=some (.slice none 0 0):=HVZ.out.cell 3
   have vf3:Z.frozen? ⟨VB,3,none⟩=false:=HVZ.out.frozen 3
   have v4:Z.cell? ⟨VB,4,none⟩=some (.slice none 0 0):=HVZ.out.cell 4
   have vf4:Z.frozen? ⟨VB,4,none⟩=false:=HVZ.out.frozen 4
   have vl:=HVZ.out.lt
   have HW:=hide (jsets_blk (JN.mk 1 0 ⟨#[]⟩ none 0 [] none 0 []).cells HRZ.out rfl (JN.mk 1 0 ⟨#[]⟩ none 0 [] none 0 []).cells_size)
   have HWm:=hide (jsets_mod Z RB (JN.mk 1 0 ⟨#[]⟩ none 0 [] none 0 []).cells)
   try unfold JN.cells at HW HWm
   go_wp2_with fail
   refine bodyPost_ret (results_cell_row rfl _ _ RB 43 (#[.int .i64 1,.int .i64 0,.string ⟨#[]⟩,.slice none 0 0,.slice none 0 0]) (0,0) _ rfl ?_ Tryz.underlying43 rfl (by kernel_rfl)) rfl ?_
   ·exact HW.out
   exact RP.ok HEz.out (HMZ.out.trans HWm.out (by simp only[List.mem_singleton];rintro _ rfl;right;have:=HRw.out;omega)) ⟨(JN.mk 1 0 ⟨#[]⟩ none 0 [] none 0 []),rfl,rfl,JIn.mod HWm.out HFr.out HXz.out,fun g hg=>⟨(HFz.out g hg).1,Nat.lt_of_lt_of_le (HFz.out g hg).2 HWm.out.size⟩⟩ (HZr.out.mod HWm.out (by have:=HRp.out;simp at this ⊢;omega)) rfl
 have hd102:=hd
 clear hd
 by_cases hd:(rst s k2).head? =some 116
 ·have e0:((((some (116:UInt8)).getD 0).toNat:Nat):Int)=116:=rfl
  have HE0:Hid (jvalue (m+1) (rst s k)=((jword [116,114,117,101] (rst s k2)).bind fun _ r=> .ok (JV.mk 2 0 ⟨#[]⟩ [] []) r).bind fun v r=> .ok v (jsp r)):=hide (by
   rw[jvalue,←HQ2.out]
   unfold jval1
   simp only[hd]
   rfl)
  have hWl:(⟨#[116,114,117,101]⟩:ByteArray).data.toList= [116,114,117,101]:=rfl
  have hWd:=word_any _ p k2 s ⟨#[116,114,117,101]⟩ H4.out (by decide)
  rw[hWl]at hWd
  have HWd:=hide hWd
  clear hWd hWl
  rw[hd,e0]
  clear hd
  go_wp2_with fail
  refine HWd.out.mono ?_
  rintro e w5 ⟨m5,hp⟩
  have HM5:=hide (HM4.out.trans m5 (by simp))
  have HR5:=hide (m5.blk HR4.out HRp.out)
  have HV5:=hide (m5.blk HV4.out HVp.out)
  cases hx:jword [116,114,117,101] (rst s k2)with
  | er r=>
   rw[hx]at hp
   obtain⟨k3,rfl,h1,h2⟩:=hp
   have HE:Hid (jvalue (m+1) (rst s k)=.er r):=hide (by rw[HE0.out,hx];rfl)
   clear m5 hx
   go_wp2_with fail
   rename_i heq
   cases heq
   exact⟨rfl,RP.er HE.out HM5.out h1 h2⟩
  | ok q r=>
   rw[hx]at hp
   obtain⟨ky,u,rfl,rfl,h1,h2⟩:=hp
   have HEv:Hid (jvalue (m+1) (rst s k)=.ok (JN.mk 2 0 ⟨#[]⟩ none 0 [] none 0 []).v (jsp (rst s ky))):=hide (by rw[HE0.out,hx,h2];rfl)
   have H5:=hide h1
   clear m5 hx h1 h2
   have v0:w5.cell? ⟨VB,0,none⟩=some (.int .i64 0):=HV5.out.cell 0
   have vf0:w5.frozen? ⟨VB,0,none⟩=false:=HV5.out.frozen 0
   have v1:w5.cell? ⟨VB,1,none⟩=some (.int .i64 0):=HV5.out.cell 1
   have vf1:w5.frozen? ⟨VB,1,none⟩=false:=HV5.out.frozen 1
   have v2:w5.cell? ⟨VB,2,none⟩=some (.string ⟨#[]⟩):=HV5.out.cell 2
   have vf2:w5.frozen? ⟨VB,2,none⟩=false:=HV5.out.frozen 2
   have v3:w5.cell? ⟨VB,3,none⟩=some (.slice none 0 0):=HV5.out.cell 3
   have vf3:w5.frozen? ⟨VB,3,none⟩=false:=HV5.out.frozen 3
   have v4:w5.cell? ⟨VB,4,none⟩=some (.slice none 0 0):=HV5.out.cell 4
   have vf4:w5.frozen? ⟨VB,4,none⟩=false:=HV5.out.frozen 4
   have vl:=HV5.out.lt
   go_wp2_with fail
   have m6:Mod [p] w (w5.setCell ⟨VB,0,none⟩ (.int .i64 2)):=HM5.out.setCell (p:=⟨VB,0,none⟩) (.inr (by have:=HVB.out;have:=HRw.out;show w.heap.size≤VB;omega)) _
   have hv6:Blk (w5.setCell ⟨VB,0,none⟩ (.int .i64 2)) VB 43 (JN.mk 2 0 ⟨#[]⟩ none 0 [] none 0 []).cells:=HV5.out.set_ 0 (.int .i64 2)
   have hr6:Blk (w5.setCell ⟨VB,0,none⟩ (.int .i64 2)) RB 43 #[.int .i64 0,.int .i64 0,.string ⟨#[]⟩,.slice none 0 0,.slice none 0 0]:=HR5.out.far (p:=⟨VB,0,none⟩) (by have:=HVB.out;show RB≠VB;omega) _
   have hy6:Rd (w5.setCell ⟨VB,0,none⟩ (.int .i64 2)) p s ky:=⟨H5.out.blk.far (p:=⟨VB,0,none⟩) (by have:=HVB.out;have:=HPw.out;have:=HRw.out;show p≠VB;omega) _,H5.out.le,H5.out.small⟩
   obtain⟨Y,hY⟩:∃Y,w5.setCell ⟨VB,0,none⟩ (.int .i64 2)=Y:=⟨_,rfl⟩
   rw[hY]at m6 hv6 hr6 hy6
   rw[hY]
   have HMY:=hide m6
   have HY:=hide hy6
   have HV:=hide hv6
   have HRY:=hide hr6
   have HXi:Hid (JIn Y (JN.mk 2 0 ⟨#[]⟩ none 0 [] none 0 [])):=hide (JIn.plain _ _ _ _)
   have HXf:Hid (∀g∈JFoot (JN.mk 2 0 ⟨#[]⟩ none 0 [] none 0 []),VB < g∧g < Y.heap.size):=hide (by intro g hg;simp[JFoot,JFoots]at hg)
   clear m6 hv6 hr6 hy6 hY v0 vf0 v1 vf1 v2 vf2 v3 vf3 v4 vf4 vl
   go_wp2_with fail
   refine(HSp.out _ _ HY.out).mono ?_
   rintro e Z ⟨rfl,mz,kz,hrz,hqz⟩
   have HMZ:=hide (HMY.out.trans mz (by simp))
   have HRZ:=hide (mz.blk HRY.out HRp.out)
   have HVZ:=hide (mz.blk HV.out HVp.out)
   have HXz:=hide (JIn.mod mz (fun g hg=>by have:=(HXf.out g hg).1;have:=HVB.out;have:=HPw.out;have:=HRw.out;simp;omega) HXi.out)
   have HEz:Hid (jvalue (m+1) (rst s k)=.ok (JN.mk 2 0 ⟨#[]⟩ none 0 [] none 0 []).v (rst s kz)):=hide (by rw[HEv.out,hqz])
   have HFz:Hid (∀g∈JFoot (JN.mk 2 0 ⟨#[]⟩ none 0 [] none 0 []),w.heap.size≤g∧g < Z.heap.size):=hide (fun g hg=>⟨by have:=(HXf.out g hg).1;have:=HVB.out;have:=HRw.out;omega,Nat.lt_of_lt_of_le (HXf.out g hg).2 mz.size⟩)
   have HFr:Hid (∀g∈JFoot (JN.mk 2 0 ⟨#[]⟩ none 0 [] none 0 []),g∉ [RB]):=hide (fun g hg=>by have:=(HXf.out g hg).1;have:=HVB.out;have:=HRw.out;simp;omega)
   have HZr:=hide hrz
   clear mz hrz hqz
   have z0:Z.cell? ⟨RB,0,none⟩=some (.int .i64 0):=HRZ.out.cell 0
   have zf0:Z.frozen? ⟨RB,0,none⟩=false:=HRZ.out.frozen 0
   have z1:Z.cell? ⟨RB,1,none⟩=some (.int .i64 0):=HRZ.out.cell 1
   have zf1:Z.frozen? ⟨RB,1,none⟩=false:=HRZ.out.frozen 1
   have z2:Z.cell? ⟨RB,2,none⟩=some (.string ⟨#[]⟩):=HRZ.out.cell 2
   have zf2:Z.frozen? ⟨RB,2,none⟩=false:=HRZ.out.frozen 2
   have z3:Z.cell? ⟨RB,3,none⟩=some (.slice none 0 0):=HRZ.out.cell 3
   have zf3:Z.frozen? ⟨RB,3,none⟩=false:=HRZ.out.frozen 3
   have z4:Z.cell? ⟨RB,4,none⟩=some (.slice none 0 0):=HRZ.out.cell 4
   have zf4:Z.frozen? ⟨RB,4,none⟩=false:=HRZ.out.frozen 4
   have zl:=HRZ.out.lt
   have v0:Z.cell? ⟨VB,0,none⟩=some (.int .i64 2):=HVZ.out.cell 0
   have vf0:Z.frozen? ⟨VB,0,none⟩=false:=HVZ.out.frozen 0
   have v1:Z.cell? ⟨VB,1,none⟩=some (.int .i64 0):=HVZ.out.cell 1
   have vf1:Z.frozen? ⟨VB,1,none⟩=false:=HVZ.out.frozen 1
   have v2:Z.cell? ⟨VB,2,none⟩=some (.string ⟨#[]⟩):=HVZ.out.cell 2
   have vf2:Z.frozen? ⟨VB,2,none⟩=false:=HVZ.out.frozen 2
   have v3:Z.cell? ⟨VB,3,none⟩=some (.slice none 0 0):=HVZ.out.cell 3
   have vf3:Z.frozen? ⟨VB,3,none⟩=false:=HVZ.out.frozen 3
   have v4:Z.cell? ⟨VB,4,none⟩=some (.slice none 0 0):=HVZ.out.cell 4
   have vf4:Z.frozen? ⟨VB,4,none⟩=false:=HVZ.out.frozen 4
   have vl:=HVZ.out.lt
   have HW:=hide (jsets_blk (JN.mk 2 0 ⟨#[]⟩ none 0 [] none 0 []).cells HRZ.out rfl (JN.mk 2 0 ⟨#[]⟩ none 0 [] none 0 []).cells_size)
   have HWm:=hide (jsets_mod Z RB (JN.mk 2 0 ⟨#[]⟩ none 0 [] none 0 []).cells)
   try unfold JN.cells at HW HWm
   go_wp2_with fail
   refine bodyPost_ret (results_cell_row rfl _ _ RB 43 (#[.int .i64 2,.int .i64 0,.string ⟨#[]⟩,.slice none 0 0,.slice none 0 0]) (0,0) _ rfl ?_ Tryz.underlying43 rfl (by kernel_rfl)) rfl ?_
   ·exact HW.out
   exact RP.ok HEz.out (HMZ.out.trans HWm.out (by simp only[List.mem_singleton];rintro _ rfl;right;have:=HRw.out;omega)) ⟨(JN.mk 2 0 ⟨#[]⟩ none 0 [] none 0 []),rfl,rfl,JIn.mod HWm.out HFr.out HXz.out,fun g hg=>⟨(HFz.out g hg).1,Nat.lt_of_lt_of_le (HFz.out g hg).2 HWm.out.size⟩⟩ (HZr.out.mod HWm.out (by have:=HRp.out;simp at this ⊢;omega)) rfl
 have hd116:=hd
 clear hd
 by_cases hd:(rst s k2).head? =some 34
 ·have e0:((((some (34:UInt8)).getD 0).toNat:Nat):Int)=34:=rfl
  have HE0:Hid (jvalue (m+1) (rst s k)=((jtext (rst s k2)).bind fun t r=> .ok (JV.mk 4 0 (tob t) [] []) r).bind fun v r=> .ok v (jsp r)):=hide (by
   rw[jvalue,←HQ2.out]
   unfold jval1
   simp only[hd]
   rfl)
  have HCl:=hide (text_any _ p k2 s H4.out)
  rw[hd,e0]
  clear hd
  go_wp2_with fail
  refine HCl.out.mono ?_
  rintro e w5 ⟨m5,hp⟩
  have HM5:=hide (HM4.out.trans m5 (by simp))
  have HR5:=hide (m5.blk HR4.out HRp.out)
  have HV5:=hide (m5.blk HV4.out HVp.out)
  cases hx:jtext (rst s k2)with
  | er r=>
   rw[hx]at hp
   obtain⟨k3,rfl,h1,h2⟩:=hp
   have HE:Hid (jvalue (m+1) (rst s k)=.er r):=hide (by rw[HE0.out,hx];rfl)
   clear m5 hx
   go_wp2_with fail
   rename_i heq
   cases heq
   exact⟨rfl,RP.er HE.out HM5.out h1 h2⟩
  | ok q r=>
   rw[hx]at hp
   obtain⟨ky,u,rfl,rfl,h1,h2⟩:=hp
   have HEv:Hid (jvalue (m+1) (rst s k)=.ok (JN.mk 4 0 (tob q) none 0 [] none 0 []).v (jsp (rst s ky))):=hide (by rw[HE0.out,hx,h2];rfl)
   have H5:=hide h1
   clear m5 hx h1 h2
   have v0:w5.cell? ⟨VB,0,none⟩=some (.int .i64 0):=HV5.out.cell 0
   have vf0:w5.frozen? ⟨VB,0,none⟩=false:=HV5.out.frozen 0
   have v1:w5.cell? ⟨VB,1,none⟩=some (.int .i64 0):=HV5.out.cell 1
   have vf1:w5.frozen? ⟨VB,1,none⟩=false:=HV5.out.frozen 1
   have v2:w5.cell? ⟨VB,2,none⟩=some (.string ⟨#[]⟩):=HV5.out.cell 2
   have vf2:w5.frozen? ⟨VB,2,none⟩=false:=HV5.out.frozen 2
   have v3:w5.cell? ⟨VB,3,none⟩=some (.slice none 0 0):=HV5.out.cell 3
   have vf3:w5.frozen? ⟨VB,3,none⟩=false:=HV5.out.frozen 3
   have v4:w5.cell? ⟨VB,4,none⟩=some (.slice none 0 0):=HV5.out.cell 4
   have vf4:w5.frozen? ⟨VB,4,none⟩=false:=HV5.out.frozen 4
   have vl:=HV5.out.lt
   have hm6:=jsets_mod w5 VB (JN.mk 4 0 (tob q) none 0 [] none 0 []).cells
   have hv6:=jsets_blk (JN.mk 4 0 (tob q) none 0 [] none 0 []).cells HV5.out rfl (JN.mk 4 0 (tob q) none 0 [] none 0 []).cells_size
   have hr6:=hm6.blk HR5.out (by have:=HVB.out;simp;omega)
   have hy6:=H5.out.mod hm6 (by have:=HVB.out;have:=HPw.out;have:=HRw.out;simp;omega)
   have m6:=HM5.out.trans hm6 (by simp only[List.mem_singleton];rintro _ rfl;right;have:=HVB.out;have:=HRw.out;omega)
   unfold str
   go_wp2_with fail
   obtain⟨Y,hY⟩:∃Y,jsets w5 VB (JN.mk 4 0 (tob q) none 0 [] none 0 []).cells=Y:=⟨_,rfl⟩
   rw[hY]at hv6 hr6 hy6 m6
   change _
   have hY2:=hY
   unfold JN.cells at hY2
   simp only[jsets,show List.range 5= [0,1,2,3,4]from rfl,List.foldl_cons,List.foldl_nil]at hY2
   first | rw[hY2] | (simp only[hY2]) | (erw [hY2]) | trace_state
   have HMY:=hide m6
   have HY:=hide hy6
   have HV:=hide hv6
   have HRY:=hide hr6
   have HXi:Hid (JIn Y (JN.mk 4 0 (tob q) none 0 [] none 0 [])):=hide (JIn.plain _ _ _ _)
   have HXf:Hid (∀g∈JFoot (JN.mk 4 0 (tob q) none 0 [] none 0 []),VB < g∧g < Y.heap.size):=hide (by intro g hg;simp[JFoot,JFoots]at hg)
   clear m6 hv6 hr6 hy6 hY hY2 hm6 v0 vf0 v1 vf1 v2 vf2 v3 vf3 v4 vf4 vl
   go_wp2_with fail
   refine(HSp.out _ _ HY.out).mono ?_
   rintro e Z ⟨rfl,mz,kz,hrz,hqz⟩
   have HMZ:=hide (HMY.out.trans mz (by simp))
   have HRZ:=hide (mz.blk HRY.out HRp.out)
   have HVZ:=hide (mz.blk HV.out HVp.out)
   have HXz:=hide (JIn.mod mz (fun g hg=>by have:=(HXf.out g hg).1;have:=HVB.out;have:=HPw.out;have:=HRw.out;simp;omega) HXi.out)
   have HEz:Hid (jvalue (m+1) (rst s k)=.ok (JN.mk 4 0 (tob q) none 0 [] none 0 []).v (rst s kz)):=hide (by rw[HEv.out,hqz])
   have HFz:Hid (∀g∈JFoot (JN.mk 4 0 (tob q) none 0 [] none 0 []),w.heap.size≤g∧g < Z.heap.size):=hide (fun g hg=>⟨by have:=(HXf.out g hg).1;have:=HVB.out;have:=HRw.out;omega,Nat.lt_of_lt_of_le (HXf.out g hg).2 mz.size⟩)
   have HFr:Hid (∀g∈JFoot (JN.mk 4 0 (tob q) none 0 [] none 0 []),g∉ [RB]):=hide (fun g hg=>by have:=(HXf.out g hg).1;have:=HVB.out;have:=HRw.out;simp;omega)
   have HZr:=hide hrz
   clear mz hrz hqz
   have z0:Z.cell? ⟨RB,0,none⟩=some (.int .i64 0):=HRZ.out.cell 0
   have zf0:Z.frozen? ⟨RB,0,none⟩=false:=HRZ.out.frozen 0
   have z1:Z.cell? ⟨RB,1,none⟩=some (.int .i64 0):=HRZ.out.cell 1
   have zf1:Z.frozen? ⟨RB,1,none⟩=false:=HRZ.out.frozen 1
   have z2:Z.cell? ⟨RB,2,none⟩=some (.string ⟨#[]⟩):=HRZ.out.cell 2
   have zf2:Z.frozen? ⟨RB,2,none⟩=false:=HRZ.out.frozen 2
   have z3:Z.cell? ⟨RB,3,none⟩=some (.slice none 0 0):=HRZ.out.cell 3
   have zf3:Z.frozen? ⟨RB,3,none⟩=false:=HRZ.out.frozen 3
   have z4:Z.cell? ⟨RB,4,none⟩=some (.slice none 0 0):=HRZ.out.cell 4
   have zf4:Z.frozen? ⟨RB,4,none⟩=false:=HRZ.out.frozen 4
   have zl:=HRZ.out.lt
   have v0:Z.cell? ⟨VB,0,none⟩=some (.int .i64 4):=HVZ.out.cell 0
   have vf0:Z.frozen? ⟨VB,0,none⟩=false:=HVZ.out.frozen 0
   have v1:Z.cell? ⟨VB,1,none⟩=some (.int .i64 0):=HVZ.out.cell 1
   have vf1:Z.frozen? ⟨VB,1,none⟩=false:=HVZ.out.frozen 1
   have v2:Z.cell? ⟨VB,2,none⟩=some (.string (tob q)):=HVZ.out.cell 2
   have vf2:Z.frozen? ⟨VB,2,none⟩=false:=HVZ.out.frozen 2
   have v3:Z.cell? ⟨VB,3,none⟩=some (.slice none 0 0):=HVZ.out.cell 3
   have vf3:Z.frozen? ⟨VB,3,none⟩=false:=HVZ.out.frozen 3
   have v4:Z.cell? ⟨VB,4,none⟩=some (.slice none 0 0):=HVZ.out.cell 4
   have vf4:Z.frozen? ⟨VB,4,none⟩=false:=HVZ.out.frozen 4
   have vl:=HVZ.out.lt
   have HW:=hide (jsets_blk (JN.mk 4 0 (tob q) none 0 [] none 0 []).cells HRZ.out rfl (JN.mk 4 0 (tob q) none 0 [] none 0 []).cells_size)
   have HWm:=hide (jsets_mod Z RB (JN.mk 4 0 (tob q) none 0 [] none 0 []).cells)
   try unfold JN.cells at HW HWm
   go_wp2_with fail
   refine bodyPost_ret (results_cell_row rfl _ _ RB 43 (#[.int .i64 4,.int .i64 0,.string (tob q),.slice none 0 0,.slice none 0 0]) (0,0) _ rfl ?_ Tryz.underlying43 rfl (by kernel_rfl)) rfl ?_
   ·exact HW.out
   exact RP.ok HEz.out (HMZ.out.trans HWm.out (by simp only[List.mem_singleton];rintro _ rfl;right;have:=HRw.out;omega)) ⟨(JN.mk 4 0 (tob q) none 0 [] none 0 []),rfl,rfl,JIn.mod HWm.out HFr.out HXz.out,fun g hg=>⟨(HFz.out g hg).1,Nat.lt_of_lt_of_le (HFz.out g hg).2 HWm.out.size⟩⟩ (HZr.out.mod HWm.out (by have:=HRp.out;simp at this ⊢;omega)) rfl
 have hd34:=hd
 clear hd
 by_cases hd:(rst s k2).head? =some 91
 ·have e0:((((some (91:UInt8)).getD 0).toNat:Nat):Int)=91:=rfl
  obtain⟨tt,htt⟩:∃t,rst s k2=91 ::t:=by
   cases hq:rst s k2 with
   | nil=>rw[hq]at hd;cases hd
   | cons c t=>rw[hq]at hd;cases hd;exact⟨t,rfl⟩
  obtain⟨hk2, -,hkt⟩:=rst_cons htt
  have HE0:Hid (jvalue (m+1) (rst s k)=((jlist (jvalue m) false (rst s (k2+1))).bind fun x r=> .ok (JV.mk 5 0 ⟨#[]⟩ x.1 (x.2.map tob)) r).bind fun v r=> .ok v (jsp r)):=hide (by
   rw[jvalue,←HQ2.out,hkt]
   unfold jval1
   simp only[hd,htt,List.tail_cons]
   rfl)
  have HK2:=hide hk2
  rw[hd,e0]
  clear hd htt hk2 hkt
  have v0:w4.cell? ⟨VB,0,none⟩=some (.int .i64 0):=HV4.out.cell 0
  have vf0:w4.frozen? ⟨VB,0,none⟩=false:=HV4.out.frozen 0
  have v1:w4.cell? ⟨VB,1,none⟩=some (.int .i64 0):=HV4.out.cell 1
  have vf1:w4.frozen? ⟨VB,1,none⟩=false:=HV4.out.frozen 1
  have v2:w4.cell? ⟨VB,2,none⟩=some (.string ⟨#[]⟩):=HV4.out.cell 2
  have vf2:w4.frozen? ⟨VB,2,none⟩=false:=HV4.out.frozen 2
  have v3:w4.cell? ⟨VB,3,none⟩=some (.slice none 0 0):=HV4.out.cell 3
  have vf3:w4.frozen? ⟨VB,3,none⟩=false:=HV4.out.frozen 3
  have v4:w4.cell? ⟨VB,4,none⟩=some (.slice none 0 0):=HV4.out.cell 4
  have vf4:w4.frozen? ⟨VB,4,none⟩=false:=HV4.out.frozen 4
  have vl:=HV4.out.lt
  go_wp2_with fail
  have hm5:Mod [p] w (w4.setCell ⟨VB,0,none⟩ (.int .i64 5)):=HM4.out.setCell (p:=⟨VB,0,none⟩) (.inr (by have:=HVB.out;have:=HRw.out;show w.heap.size≤VB;omega)) _
  have hv5:Blk (w4.setCell ⟨VB,0,none⟩ (.int .i64 5)) VB 43 (JN.mk 5 0 ⟨#[]⟩ none 0 [] none 0 []).cells:=HV4.out.set_ 0 (.int .i64 5)
  have hr5:Blk (w4.setCell ⟨VB,0,none⟩ (.int .i64 5)) RB 43 #[.int .i64 0,.int .i64 0,.string ⟨#[]⟩,.slice none 0 0,.slice none 0 0]:=HR4.out.far (p:=⟨VB,0,none⟩) (by have:=HVB.out;show RB≠VB;omega) _
  have hy5:Rd (w4.setCell ⟨VB,0,none⟩ (.int .i64 5)) p s k2:=⟨H4.out.blk.far (p:=⟨VB,0,none⟩) (by have:=HVB.out;have:=HPw.out;have:=HRw.out;show p≠VB;omega) _,H4.out.le,H4.out.small⟩
  obtain⟨w5,hw5⟩:∃Y,w4.setCell ⟨VB,0,none⟩ (.int .i64 5)=Y:=⟨_,rfl⟩
  rw[hw5]at hm5 hv5 hr5 hy5
  rw[hw5]
  have hj5:JVars p w5:=HJ0.out.mod hm5 (by have:=HPw.out;omega) (by simp)
  have hpvb:p < VB:=by have:=HVB.out;have:=HPw.out;have:=HRw.out;omega
  have HMn:=hide (many_false m (by omega) hV w5 p k2 VB s hy5 HK2.out hv5 hpvb hj5)
  have HM5:=hide hm5
  have HR5:=hide hr5
  have HV5:=hide hv5
  clear hm5 hv5 hr5 hy5 hj5 hpvb hw5 v0 vf0 v1 vf1 v2 vf2 v3 vf3 v4 vf4 vl
  go_wp2_with fail
  refine HMn.out.mono ?_
  rintro e w6 ⟨m6,hp⟩
  have HMY:=hide (HM5.out.trans m6 (by simp only[List.mem_cons,List.mem_nil_iff,or_false];rintro y (rfl | rfl);exact .inl rfl;right;have:=HVB.out;have:=HRw.out;omega))
  have HRY:=hide (m6.blk HR5.out (by have h1:=HRp.out;have h2:=HVB.out;simp at h1 ⊢;omega))
  cases hx:jlist (jvalue m) false (rst s (k2+1))with
  | er r=>
   rw[hx]at hp
   obtain⟨k3,rfl,h1,h2⟩:=hp
   have HE:Hid (jvalue (m+1) (rst s k)=.er r):=hide (by rw[HE0.out,hx];rfl)
   clear m6 hx
   go_wp2_with fail
   rename_i heq
   cases heq
   exact⟨rfl,RP.er HE.out HMY.out h1 h2⟩
  | ok q r=>
   rw[hx]at hp
   obtain⟨ky,rfl,h1,h2,A,c,l,B,d,ks,hvb,hvs,hks,hji,hjf⟩:=hp
   have HEv:Hid (jvalue (m+1) (rst s k)=.ok (JN.mk 5 0 ⟨#[]⟩ A c l B d ks).v (jsp (rst s ky))):=hide (by
    rw[HE0.out,hx,h2]
    simp only[PR.bind]
    rw[JN.v,hvs,hks])
   have HY:=hide h1
   have HV:=hide hvb
   have HXi:=hide hji
   have hvl:=HV5.out.lt
   have HXf:Hid (∀g∈JFoot (JN.mk 5 0 ⟨#[]⟩ A c l B d ks),VB < g∧g < w6.heap.size):=hide (fun g hg=>⟨by have:=(hjf g hg).1;omega,(hjf g hg).2⟩)
   clear m6 hx h1 h2 hvb hvs hks hji hjf hvl
   go_wp2_with fail
   refine(HSp.out _ _ HY.out).mono ?_
   rintro e Z ⟨rfl,mz,kz,hrz,hqz⟩
   have HMZ:=hide (HMY.out.trans mz (by simp))
   have HRZ:=hide (mz.blk HRY.out HRp.out)
   have HVZ:=hide (mz.blk HV.out HVp.out)
   have HXz:=hide (JIn.mod mz (fun g hg=>by have:=(HXf.out g hg).1;have:=HVB.out;have:=HPw.out;have:=HRw.out;simp;omega) HXi.out)
   have HEz:Hid (jvalue (m+1) (rst s k)=.ok (JN.mk 5 0 ⟨#[]⟩ A c l B d ks).v (rst s kz)):=hide (by rw[HEv.out,hqz])
   have HFz:Hid (∀g∈JFoot (JN.mk 5 0 ⟨#[]⟩ A c l B d ks),w.heap.size≤g∧g < Z.heap.size):=hide (fun g hg=>⟨by have:=(HXf.out g hg).1;have:=HVB.out;have:=HRw.out;omega,Nat.lt_of_lt_of_le (HXf.out g hg).2 mz.size⟩)
   have HFr:Hid (∀g∈JFoot (JN.mk 5 0 ⟨#[]⟩ A c l B d ks),g∉ [RB]):=hide (fun g hg=>by have:=(HXf.out g hg).1;have:=HVB.out;have:=HRw.out;simp;omega)
   have HZr:=hide hrz
   clear mz hrz hqz
   have z0:Z.cell? ⟨RB,0,none⟩=some (.int .i64 0):=HRZ.out.cell 0
   have zf0:Z.frozen? ⟨RB,0,none⟩=false:=HRZ.out.frozen 0
   have z1:Z.cell? ⟨RB,1,none⟩=some (.int .i64 0):=HRZ.out.cell 1
   have zf1:Z.frozen? ⟨RB,1,none⟩=false:=HRZ.out.frozen 1
   have z2:Z.cell? ⟨RB,2,none⟩=some (.string ⟨#[]⟩):=HRZ.out.cell 2
   have zf2:Z.frozen? ⟨RB,2,none⟩=false:=HRZ.out.frozen 2
   have z3:Z.cell? ⟨RB,3,none⟩=some (.slice none 0 0):=HRZ.out.cell 3
   have zf3:Z.frozen? ⟨RB,3,none⟩=false:=HRZ.out.frozen 3
   have z4:Z.cell? ⟨RB,4,none⟩=some (.slice none 0 0):=HRZ.out.cell 4
   have zf4:Z.frozen? ⟨RB,4,none⟩=false:=HRZ.out.frozen 4
   have zl:=HRZ.out.lt
   have v0:Z.cell? ⟨VB,0,none⟩=some (.int .i64 5):=HVZ.out.cell 0
   have vf0:Z.frozen? ⟨VB,0,none⟩=false:=HVZ.out.frozen 0
   have v1:Z.cell? ⟨VB,1,none⟩=some (.int .i64 0):=HVZ.out.cell 1
   have vf1:Z.frozen? ⟨VB,1,none⟩=false:=HVZ.out.frozen 1
   have v2:Z.cell? ⟨VB,2,none⟩=some (.string ⟨#[]⟩):=HVZ.out.cell 2
   have vf2:Z.frozen? ⟨VB,2,none⟩=false:=HVZ.out.frozen 2
   have v3:Z.cell? ⟨VB,3,none⟩=some (.slice A l.length c):=HVZ.out.cell 3
   have vf3:Z.frozen? ⟨VB,3,none⟩=false:=HVZ.out.frozen 3
   have v4:Z.cell? ⟨VB,4,none⟩=some (.slice B ks.length d):=HVZ.out.cell 4
   have vf4:Z.frozen? ⟨VB,4,none⟩=false:=HVZ.out.frozen 4
   have vl:=HVZ.out.lt
   have HW:=hide (jsets_blk (JN.mk 5 0 ⟨#[]⟩ A c l B d ks).cells HRZ.out rfl (JN.mk 5 0 ⟨#[]⟩ A c l B d ks).cells_size)
   have HWm:=hide (jsets_mod Z RB (JN.mk 5 0 ⟨#[]⟩ A c l B d ks).cells)
   try unfold JN.cells at HW HWm
   go_wp2_with fail
   refine bodyPost_ret (results_cell_row rfl _ _ RB 43 (#[.int .i64 5,.int .i64 0,.string ⟨#[]⟩,.slice A l.length c,.slice B ks.length d]) (0,0) _ rfl ?_ Tryz.underlying43 rfl (by kernel_rfl)) rfl ?_
   ·exact HW.out
   exact RP.ok HEz.out (HMZ.out.trans HWm.out (by simp only[List.mem_singleton];rintro _ rfl;right;have:=HRw.out;omega)) ⟨(JN.mk 5 0 ⟨#[]⟩ A c l B d ks),rfl,rfl,JIn.mod HWm.out HFr.out HXz.out,fun g hg=>⟨(HFz.out g hg).1,Nat.lt_of_lt_of_le (HFz.out g hg).2 HWm.out.size⟩⟩ (HZr.out.mod HWm.out (by have:=HRp.out;simp at this ⊢;omega)) rfl
 have hd91:=hd
 clear hd
 by_cases hd:(rst s k2).head? =some 123
 ·have e0:((((some (123:UInt8)).getD 0).toNat:Nat):Int)=123:=rfl
  obtain⟨tt,htt⟩:∃t,rst s k2=123 ::t:=by
   cases hq:rst s k2 with
   | nil=>rw[hq]at hd;cases hd
   | cons c t=>rw[hq]at hd;cases hd;exact⟨t,rfl⟩
  obtain⟨hk2, -,hkt⟩:=rst_cons htt
  have HE0:Hid (jvalue (m+1) (rst s k)=((jlist (jvalue m) true (rst s (k2+1))).bind fun x r=> .ok (JV.mk 6 0 ⟨#[]⟩ x.1 (x.2.map tob)) r).bind fun v r=> .ok v (jsp r)):=hide (by
   rw[jvalue,←HQ2.out,hkt]
   unfold jval1
   simp only[hd,htt,List.tail_cons]
   rfl)
  have HK2:=hide hk2
  rw[hd,e0]
  clear hd htt hk2 hkt
  have v0:w4.cell? ⟨VB,0,none⟩=some (.int .i64 0):=HV4.out.cell 0
  have vf0:w4.frozen? ⟨VB,0,none⟩=false:=HV4.out.frozen 0
  have v1:w4.cell? ⟨VB,1,none⟩=some (.int .i64 0):=HV4.out.cell 1
  have vf1:w4.frozen? ⟨VB,1,none⟩=false:=HV4.out.frozen 1
  have v2:w4.cell? ⟨VB,2,none⟩=some (.string ⟨#[]⟩):=HV4.out.cell 2
  have vf2:w4.frozen? ⟨VB,2,none⟩=false:=HV4.out.frozen 2
  have v3:w4.cell? ⟨VB,3,none⟩=some (.slice none 0 0):=HV4.out.cell 3
  have vf3:w4.frozen? ⟨VB,3,none⟩=false:=HV4.out.frozen 3
  have v4:w4.cell? ⟨VB,4,none⟩=some (.slice none 0 0):=HV4.out.cell 4
  have vf4:w4.frozen? ⟨VB,4,none⟩=false:=HV4.out.frozen 4
  have vl:=HV4.out.lt
  go_wp2_with fail
  have hm5:Mod [p] w (w4.setCell ⟨VB,0,none⟩ (.int .i64 6)):=HM4.out.setCell (p:=⟨VB,0,none⟩) (.inr (by have:=HVB.out;have:=HRw.out;show w.heap.size≤VB;omega)) _
  have hv5:Blk (w4.setCell ⟨VB,0,none⟩ (.int .i64 6)) VB 43 (JN.mk 6 0 ⟨#[]⟩ none 0 [] none 0 []).cells:=HV4.out.set_ 0 (.int .i64 6)
  have hr5:Blk (w4.setCell ⟨VB,0,none⟩ (.int .i64 6)) RB 43 #[.int .i64 0,.int .i64 0,.string ⟨#[]⟩,.slice none 0 0,.slice none 0 0]:=HR4.out.far (p:=⟨VB,0,none⟩) (by have:=HVB.out;show RB≠VB;omega) _
  have hy5:Rd (w4.setCell ⟨VB,0,none⟩ (.int .i64 6)) p s k2:=⟨H4.out.blk.far (p:=⟨VB,0,none⟩) (by have:=HVB.out;have:=HPw.out;have:=HRw.out;show p≠VB;omega) _,H4.out.le,H4.out.small⟩
  obtain⟨w5,hw5⟩:∃Y,w4.setCell ⟨VB,0,none⟩ (.int .i64 6)=Y:=⟨_,rfl⟩
  rw[hw5]at hm5 hv5 hr5 hy5
  rw[hw5]
  have hj5:JVars p w5:=HJ0.out.mod hm5 (by have:=HPw.out;omega) (by simp)
  have hpvb:p < VB:=by have:=HVB.out;have:=HPw.out;have:=HRw.out;omega
  have HMn:=hide (many_true m (by omega) hV w5 p k2 VB s hy5 HK2.out hv5 hpvb hj5)
  have HM5:=hide hm5
  have HR5:=hide hr5
  have HV5:=hide hv5
  clear hm5 hv5 hr5 hy5 hj5 hpvb hw5 v0 vf0 v1 vf1 v2 vf2 v3 vf3 v4 vf4 vl
  go_wp2_with fail
  refine HMn.out.mono ?_
  rintro e w6 ⟨m6,hp⟩
  have HMY:=hide (HM5.out.trans m6 (by simp only[List.mem_cons,List.mem_nil_iff,or_false];rintro y (rfl | rfl);exact .inl rfl;right;have:=HVB.out;have:=HRw.out;omega))
  have HRY:=hide (m6.blk HR5.out (by have h1:=HRp.out;have h2:=HVB.out;simp at h1 ⊢;omega))
  cases hx:jlist (jvalue m) true (rst s (k2+1))with
  | er r=>
   rw[hx]at hp
   obtain⟨k3,rfl,h1,h2⟩:=hp
   have HE:Hid (jvalue (m+1) (rst s k)=.er r):=hide (by rw[HE0.out,hx];rfl)
   clear m6 hx
   go_wp2_with fail
   rename_i heq
   cases heq
   exact⟨rfl,RP.er HE.out HMY.out h1 h2⟩
  | ok q r=>
   rw[hx]at hp
   obtain⟨ky,rfl,h1,h2,A,c,l,B,d,ks,hvb,hvs,hks,hji,hjf⟩:=hp
   have HEv:Hid (jvalue (m+1) (rst s k)=.ok (JN.mk 6 0 ⟨#[]⟩ A c l B d ks).v (jsp (rst s ky))):=hide (by
    rw[HE0.out,hx,h2]
    simp only[PR.bind]
    rw[JN.v,hvs,hks])
   have HY:=hide h1
   have HV:=hide hvb
   have HXi:=hide hji
   have hvl:=HV5.out.lt
   have HXf:Hid (∀g∈JFoot (JN.mk 6 0 ⟨#[]⟩ A c l B d ks),VB < g∧g < w6.heap.size):=hide (fun g hg=>⟨by have:=(hjf g hg).1;omega,(hjf g hg).2⟩)
   clear m6 hx h1 h2 hvb hvs hks hji hjf hvl
   go_wp2_with fail
   refine(HSp.out _ _ HY.out).mono ?_
   rintro e Z ⟨rfl,mz,kz,hrz,hqz⟩
   have HMZ:=hide (HMY.out.trans mz (by simp))
   have HRZ:=hide (mz.blk HRY.out HRp.out)
   have HVZ:=hide (mz.blk HV.out HVp.out)
   have HXz:=hide (JIn.mod mz (fun g hg=>by have:=(HXf.out g hg).1;have:=HVB.out;have:=HPw.out;have:=HRw.out;simp;omega) HXi.out)
   have HEz:Hid (jvalue (m+1) (rst s k)=.ok (JN.mk 6 0 ⟨#[]⟩ A c l B d ks).v (rst s kz)):=hide (by rw[HEv.out,hqz])
   have HFz:Hid (∀g∈JFoot (JN.mk 6 0 ⟨#[]⟩ A c l B d ks),w.heap.size≤g∧g < Z.heap.size):=hide (fun g hg=>⟨by have:=(HXf.out g hg).1;have:=HVB.out;have:=HRw.out;omega,Nat.lt_of_lt_of_le (HXf.out g hg).2 mz.size⟩)
   have HFr:Hid (∀g∈JFoot (JN.mk 6 0 ⟨#[]⟩ A c l B d ks),g∉ [RB]):=hide (fun g hg=>by have:=(HXf.out g hg).1;have:=HVB.out;have:=HRw.out;simp;omega)
   have HZr:=hide hrz
   clear mz hrz hqz
   have z0:Z.cell? ⟨RB,0,none⟩=some (.int .i64 0):=HRZ.out.cell 0
   have zf0:Z.frozen? ⟨RB,0,none⟩=false:=HRZ.out.frozen 0
   have z1:Z.cell? ⟨RB,1,none⟩=some (.int .i64 0):=HRZ.out.cell 1
   have zf1:Z.frozen? ⟨RB,1,none⟩=false:=HRZ.out.frozen 1
   have z2:Z.cell? ⟨RB,2,none⟩=some (.string ⟨#[]⟩):=HRZ.out.cell 2
   have zf2:Z.frozen? ⟨RB,2,none⟩=false:=HRZ.out.frozen 2
   have z3:Z.cell? ⟨RB,3,none⟩=some (.slice none 0 0):=HRZ.out.cell 3
   have zf3:Z.frozen? ⟨RB,3,none⟩=false:=HRZ.out.frozen 3
   have z4:Z.cell? ⟨RB,4,none⟩=some (.slice none 0 0):=HRZ.out.cell 4
   have zf4:Z.frozen? ⟨RB,4,none⟩=false:=HRZ.out.frozen 4
   have zl:=HRZ.out.lt
   have v0:Z.cell? ⟨VB,0,none⟩=some (.int .i64 6):=HVZ.out.cell 0
   have vf0:Z.frozen? ⟨VB,0,none⟩=false:=HVZ.out.frozen 0
   have v1:Z.cell? ⟨VB,1,none⟩=some (.int .i64 0):=HVZ.out.cell 1
   have vf1:Z.frozen? ⟨VB,1,none⟩=false:=HVZ.out.frozen 1
   have v2:Z.cell? ⟨VB,2,none⟩=some (.string ⟨#[]⟩):=HVZ.out.cell 2
   have vf2:Z.frozen? ⟨VB,2,none⟩=false:=HVZ.out.frozen 2
   have v3:Z.cell? ⟨VB,3,none⟩=some (.slice A l.length c):=HVZ.out.cell 3
   have vf3:Z.frozen? ⟨VB,3,none⟩=false:=HVZ.out.frozen 3
   have v4:Z.cell? ⟨VB,4,none⟩=some (.slice B ks.length d):=HVZ.out.cell 4
   have vf4:Z.frozen? ⟨VB,4,none⟩=false:=HVZ.out.frozen 4
   have vl:=HVZ.out.lt
   have HW:=hide (jsets_blk (JN.mk 6 0 ⟨#[]⟩ A c l B d ks).cells HRZ.out rfl (JN.mk 6 0 ⟨#[]⟩ A c l B d ks).cells_size)
   have HWm:=hide (jsets_mod Z RB (JN.mk 6 0 ⟨#[]⟩ A c l B d ks).cells)
   try unfold JN.cells at HW HWm
   go_wp2_with fail
   refine bodyPost_ret (results_cell_row rfl _ _ RB 43 (#[.int .i64 6,.int .i64 0,.string ⟨#[]⟩,.slice A l.length c,.slice B ks.length d]) (0,0) _ rfl ?_ Tryz.underlying43 rfl (by kernel_rfl)) rfl ?_
   ·exact HW.out
   exact RP.ok HEz.out (HMZ.out.trans HWm.out (by simp only[List.mem_singleton];rintro _ rfl;right;have:=HRw.out;omega)) ⟨(JN.mk 6 0 ⟨#[]⟩ A c l B d ks),rfl,rfl,JIn.mod HWm.out HFr.out HXz.out,fun g hg=>⟨(HFz.out g hg).1,Nat.lt_of_lt_of_le (HFz.out g hg).2 HWm.out.size⟩⟩ (HZr.out.mod HWm.out (by have:=HRp.out;simp at this ⊢;omega)) rfl
 have hd123:=hd
 clear hd
 have HE0:Hid (jvalue (m+1) (rst s k)=((jnumber (rst s k2)).bind fun t r=> .ok (JV.mk 3 t ⟨#[]⟩ [] []) r).bind fun v r=> .ok v (jsp r)):=hide (by
  rw[jvalue,←HQ2.out]
  unfold jval1
  rw[if_neg hd110,if_neg hd102,if_neg hd116,if_neg hd34,if_neg hd91,if_neg hd123])
 obtain⟨hb0,hhb⟩:∃b:Nat,((rst s k2).head?.getD 0).toNat=b:=⟨_,rfl⟩
 have n110:hb0≠110:=not_head hd110 hhb (by decide)
 have g110:((hb0:Int)==110)=false:=by rw[beq_eq_false_iff_ne];omega
 have n102:hb0≠102:=not_head hd102 hhb (by decide)
 have g102:((hb0:Int)==102)=false:=by rw[beq_eq_false_iff_ne];omega
 have n116:hb0≠116:=not_head hd116 hhb (by decide)
 have g116:((hb0:Int)==116)=false:=by rw[beq_eq_false_iff_ne];omega
 have n34:hb0≠34:=not_head hd34 hhb (by decide)
 have g34:((hb0:Int)==34)=false:=by rw[beq_eq_false_iff_ne];omega
 have n91:hb0≠91:=not_head hd91 hhb (by decide)
 have g91:((hb0:Int)==91)=false:=by rw[beq_eq_false_iff_ne];omega
 have n123:hb0≠123:=not_head hd123 hhb (by decide)
 have g123:((hb0:Int)==123)=false:=by rw[beq_eq_false_iff_ne];omega
 clear n110 hd110 n102 hd102 n116 hd116 n34 hd34 n91 hd91 n123 hd123
 have HCl:=hide (jnumber_any _ p k2 s H4.out (HJ0.out.mod HM4.out (by have:=HPw.out;omega) (by simp)))
 rw[hhb]
 clear hhb
 go_wp2_with fail
 refine HCl.out.mono ?_
 rintro e w5 ⟨m5,hp⟩
 have HM5:=hide (HM4.out.trans m5 (by simp))
 have HR5:=hide (m5.blk HR4.out HRp.out)
 have HV5:=hide (m5.blk HV4.out HVp.out)
 cases hx:jnumber (rst s k2)with
 | er r=>
  rw[hx]at hp
  obtain⟨k3,rfl,h1,h2⟩:=hp
  have HE:Hid (jvalue (m+1) (rst s k)=.er r):=hide (by rw[HE0.out,hx];rfl)
  clear m5 hx
  go_wp2_with fail
  rename_i heq
  cases heq
  exact⟨rfl,RP.er HE.out HM5.out h1 h2⟩
 | ok q r=>
  rw[hx]at hp
  obtain⟨ky,u,rfl,rfl,h1,h2⟩:=hp
  have HEv:Hid (jvalue (m+1) (rst s k)=.ok (JN.mk 3 q ⟨#[]⟩ none 0 [] none 0 []).v (jsp (rst s ky))):=hide (by rw[HE0.out,hx,h2];rfl)
  have H5:=hide h1
  clear m5 hx h1 h2
  have v0:w5.cell? ⟨VB,0,none⟩=some (.int .i64 0):=HV5.out.cell 0
  have vf0:w5.frozen? ⟨VB,0,none⟩=false:=HV5.out.frozen 0
  have v1:w5.cell? ⟨VB,1,none⟩=some (.int .i64 0):=HV5.out.cell 1
  have vf1:w5.frozen? ⟨VB,1,none⟩=false:=HV5.out.frozen 1
  have v2:w5.cell? ⟨VB,2,none⟩=some (.string ⟨#[]⟩):=HV5.out.cell 2
  have vf2:w5.frozen? ⟨VB,2,none⟩=false:=HV5.out.frozen 2
  have v3:w5.cell? ⟨VB,3,none⟩=some (.slice none 0 0):=HV5.out.cell 3
  have vf3:w5.frozen? ⟨VB,3,none⟩=false:=HV5.out.frozen 3
  have v4:w5.cell? ⟨VB,4,none⟩=some (.slice none 0 0):=HV5.out.cell 4
  have vf4:w5.frozen? ⟨VB,4,none⟩=false:=HV5.out.frozen 4
  have vl:=HV5.out.lt
  have hm6:=jsets_mod w5 VB (JN.mk 3 q ⟨#[]⟩ none 0 [] none 0 []).cells
  have hv6:=jsets_blk (JN.mk 3 q ⟨#[]⟩ none 0 [] none 0 []).cells HV5.out rfl (JN.mk 3 q ⟨#[]⟩ none 0 [] none 0 []).cells_size
  have hr6:=hm6.blk HR5.out (by have:=HVB.out;simp;omega)
  have hy6:=H5.out.mod hm6 (by have:=HVB.out;have:=HPw.out;have:=HRw.out;simp;omega)
  have m6:=HM5.out.trans hm6 (by simp only[List.mem_singleton];rintro _ rfl;right;have:=HVB.out;have:=HRw.out;omega)
  unfold JN.cells
  go_wp2_with fail
  obtain⟨Y,hY⟩:∃Y,jsets w5 VB (JN.mk 3 q ⟨#[]⟩ none 0 [] none 0 []).cells=Y:=⟨_,rfl⟩
  rw[hY]at hv6 hr6 hy6 m6
  change _
  have hY2:=hY
  unfold JN.cells at hY2
  simp only[jsets,show List.range 5= [0,1,2,3,4]from rfl,List.foldl_cons,List.foldl_nil]at hY2
  first | rw[hY2] | (simp only[hY2]) | (erw [hY2]) | trace_state
  have HMY:=hide m6
  have HY:=hide hy6
  have HV:=hide hv6
  have HRY:=hide hr6
  have HXi:Hid (JIn Y (JN.mk 3 q ⟨#[]⟩ none 0 [] none 0 [])):=hide (JIn.plain _ _ _ _)
  have HXf:Hid (∀g∈JFoot (JN.mk 3 q ⟨#[]⟩ none 0 [] none 0 []),VB < g∧g < Y.heap.size):=hide (by intro g hg;simp[JFoot,JFoots]at hg)
  clear m6 hv6 hr6 hy6 hY hY2 hm6 v0 vf0 v1 vf1 v2 vf2 v3 vf3 v4 vf4 vl
  go_wp2_with fail
  refine(HSp.out _ _ HY.out).mono ?_
  rintro e Z ⟨rfl,mz,kz,hrz,hqz⟩
  have HMZ:=hide (HMY.out.trans mz (by simp))
  have HRZ:=hide (mz.blk HRY.out HRp.out)
  have HVZ:=hide (mz.blk HV.out HVp.out)
  have HXz:=hide (JIn.mod mz (fun g hg=>by have:=(HXf.out g hg).1;have:=HVB.out;have:=HPw.out;have:=HRw.out;simp;omega) HXi.out)
  have HEz:Hid (jvalue (m+1) (rst s k)=.ok (JN.mk 3 q ⟨#[]⟩ none 0 [] none 0 []).v (rst s kz)):=hide (by rw[HEv.out,hqz])
  have HFz:Hid (∀g∈JFoot (JN.mk 3 q ⟨#[]⟩ none 0 [] none 0 []),w.heap.size≤g∧g < Z.heap.size):=hide (fun g hg=>⟨by have:=(HXf.out g hg).1;have:=HVB.out;have:=HRw.out;omega,Nat.lt_of_lt_of_le (HXf.out g hg).2 mz.size⟩)
  have HFr:Hid (∀g∈JFoot (JN.mk 3 q ⟨#[]⟩ none 0 [] none 0 []),g∉ [RB]):=hide (fun g hg=>by have:=(HXf.out g hg).1;have:=HVB.out;have:=HRw.out;simp;omega)
  have HZr:=hide hrz
  clear mz hrz hqz
  have z0:Z.cell? ⟨RB,0,none⟩=some (.int .i64 0):=HRZ.out.cell 0
  have zf0:Z.frozen? ⟨RB,0,none⟩=false:=HRZ.out.frozen 0
  have z1:Z.cell? ⟨RB,1,none⟩=some (.int .i64 0):=HRZ.out.cell 1
  have zf1:Z.frozen? ⟨RB,1,none⟩=false:=HRZ.out.frozen 1
  have z2:Z.cell? ⟨RB,2,none⟩=some (.string ⟨#[]⟩):=HRZ.out.cell 2
  have zf2:Z.frozen? ⟨RB,2,none⟩=false:=HRZ.out.frozen 2
  have z3:Z.cell? ⟨RB,3,none⟩=some (.slice none 0 0):=HRZ.out.cell 3
  have zf3:Z.frozen? ⟨RB,3,none⟩=false:=HRZ.out.frozen 3
  have z4:Z.cell? ⟨RB,4,none⟩=some (.slice none 0 0):=HRZ.out.cell 4
  have zf4:Z.frozen? ⟨RB,4,none⟩=false:=HRZ.out.frozen 4
  have zl:=HRZ.out.lt
  have v0:Z.cell? ⟨VB,0,none⟩=some (.int .i64 3):=HVZ.out.cell 0
  have vf0:Z.frozen? ⟨VB,0,none⟩=false:=HVZ.out.frozen 0
  have v1:Z.cell? ⟨VB,1,none⟩=some (.int .i64 q):=HVZ.out.cell 1
  have vf1:Z.frozen? ⟨VB,1,none⟩=false:=HVZ.out.frozen 1
  have v2:Z.cell? ⟨VB,2,none⟩=some (.string ⟨#[]⟩):=HVZ.out.cell 2
  have vf2:Z.frozen? ⟨VB,2,none⟩=false:=HVZ.out.frozen 2
  have v3:Z.cell? ⟨VB,3,none⟩=some (.slice none 0 0):=HVZ.out.cell 3
  have vf3:Z.frozen? ⟨VB,3,none⟩=false:=HVZ.out.frozen 3
  have v4:Z.cell? ⟨VB,4,none⟩=some (.slice none 0 0):=HVZ.out.cell 4
  have vf4:Z.frozen? ⟨VB,4,none⟩=false:=HVZ.out.frozen 4
  have vl:=HVZ.out.lt
  have HW:=hide (jsets_blk (JN.mk 3 q ⟨#[]⟩ none 0 [] none 0 []).cells HRZ.out rfl (JN.mk 3 q ⟨#[]⟩ none 0 [] none 0 []).cells_size)
  have HWm:=hide (jsets_mod Z RB (JN.mk 3 q ⟨#[]⟩ none 0 [] none 0 []).cells)
  try unfold JN.cells at HW HWm
  go_wp2_with fail
  refine bodyPost_ret (results_cell_row rfl _ _ RB 43 (#[.int .i64 3,.int .i64 q,.string ⟨#[]⟩,.slice none 0 0,.slice none 0 0]) (0,0) _ rfl ?_ Tryz.underlying43 rfl (by kernel_rfl)) rfl ?_
  ·exact HW.out
  exact RP.ok HEz.out (HMZ.out.trans HWm.out (by simp only[List.mem_singleton];rintro _ rfl;right;have:=HRw.out;omega)) ⟨(JN.mk 3 q ⟨#[]⟩ none 0 [] none 0 []),rfl,rfl,JIn.mod HWm.out HFr.out HXz.out,fun g hg=>⟨(HFz.out g hg).1,Nat.lt_of_lt_of_le (HFz.out g hg).2 HWm.out.size⟩⟩ (HZr.out.mod HWm.out (by have:=HRp.out;simp at this ⊢;omega)) rfl
theorem value_any:∀n:Nat,n≤8→ValueOk n
 | 0,_=>value_zero
 | n+1,h=>value_succ n (by omega) (value_any n (by omega))
theorem catch_panicking (w:World) (RB AB EB:Nat) (k:Int) (older:List PanicEntry) (u0 u1 u2 u3 u4 ua ue:Value) (c0:w.cell? ⟨RB,0,none⟩=some u0) (f0:w.frozen? ⟨RB,0,none⟩=false) (c1:w.cell? ⟨RB,1,none⟩=some u1) (f1:w.frozen? ⟨RB,1,none⟩=false) (c2:w.cell? ⟨RB,2,none⟩=some u2) (f2:w.frozen? ⟨RB,2,none⟩=false) (c3:w.cell? ⟨RB,3,none⟩=some u3) (f3:w.frozen? ⟨RB,3,none⟩=false) (c4:w.cell? ⟨RB,4,none⟩=some u4) (f4:w.frozen? ⟨RB,4,none⟩=false)
  (ca:w.cell? ⟨AB,0,none⟩=some ua) (fa:w.frozen? ⟨AB,0,none⟩=false) (ce:w.cell? ⟨EB,0,none⟩=some ue) (fe:w.frozen? ⟨EB,0,none⟩=false) (h1:¬RB=AB) (h2:¬RB=EB) (h3:¬AB=EB):
  CallsD Tryz.prog 110 #[.pointer (some ⟨RB,0,none⟩),.pointer (some ⟨AB,0,none⟩),.pointer (some ⟨EB,0,none⟩)] (.panicking ({ v:=.iface 131 (.int .i64 k),recovered:=false } ::older)) w fun e u' w'=>
   e=.returned (.tuple #[])∧u'=.panicking ({ v:=.iface 131 (.int .i64 k),recovered:=true } ::older)∧w'=((jsets w RB #[.int .i64 0,.int .i64 0,.string ⟨#[]⟩,.slice none 0 0,.slice none 0 0]).setCell ⟨AB,0,none⟩ (.int .i64 k)).setCell ⟨EB,0,none⟩ (.int .i64 2):=by
 have h1':¬AB=RB:=fun e=>h1 e.symm
 have h2':¬EB=RB:=fun e=>h2 e.symm
 have h3':¬EB=AB:=fun e=>h3 e.symm
 have hta:∀w:World,(Instr.typeAssert (.iface 131 (.int .i64 k)) 20 131 true).run Tryz.prog w=.ok (.tuple #[.int .i64 k,.bool true]) w:=fun _=>by kernel_rfl
 refine callsD_of_wpS Tryz.func110 rfl fun c₀ cs hu=> ?_
 rw[Tryz.ntmps110]
 have harr:(#[.pointer (some ⟨RB,0,none⟩),.pointer (some ⟨AB,0,none⟩),.pointer (some ⟨EB,0,none⟩)]:Array Value)++ Array.replicate (13 - (#[.pointer (some ⟨RB,0,none⟩),.pointer (some ⟨AB,0,none⟩),.pointer (some ⟨EB,0,none⟩)]:Array Value).size) undef= #[.pointer (some ⟨RB,0,none⟩),.pointer (some ⟨AB,0,none⟩),.pointer (some ⟨EB,0,none⟩),undef,undef,undef,undef,undef,undef,undef,undef,undef,undef]:=rfl
 rw[harr]
 apply wpS_seq
 apply wpS_region
 simp[wpOpsS,go_sem,recoverD,hu,Exit.thenS,hta]
 apply wpS_seq
 apply wpS_region
 simp[wpOpsS,go_sem,Exit.thenS]
 refine wpS_cond (t:=true) (by simp[Act.eval]) ?_
 simp only[if_true]
 apply wpS_region
 simp[wpOpsS,go_sem,c0,c1,c2,c3,c4,f0,f1,f2,f3,f4,ca,fa,ce,fe,h1,h2,h3,h1',h2',h3',bodyPostS,results,Tryz.results110,Tryz.underlying43,Tryz.isAgg43,Tryz.sizeOf43,Tryz.zeroValue43,Tryz.isAgg3,Tryz.isAgg24]
 rfl
theorem catch_idle (w:World) (RB AB EB:Nat):
  CallsD Tryz.prog 110 #[.pointer (some ⟨RB,0,none⟩),.pointer (some ⟨AB,0,none⟩),.pointer (some ⟨EB,0,none⟩)] .returning w fun e u' w'=>e=.returned (.tuple #[])∧u'=.returning∧w'=w:=by
 have hta:∀w:World,(Instr.typeAssert .nilIface 20 131 true).run Tryz.prog w=.ok (.tuple #[.int .i64 0,.bool false]) w:=fun _=>by kernel_rfl
 refine callsD_of_wpS Tryz.func110 rfl fun c₀ cs hu=> ?_
 rw[Tryz.ntmps110]
 have harr:(#[.pointer (some ⟨RB,0,none⟩),.pointer (some ⟨AB,0,none⟩),.pointer (some ⟨EB,0,none⟩)]:Array Value)++ Array.replicate (13 - (#[.pointer (some ⟨RB,0,none⟩),.pointer (some ⟨AB,0,none⟩),.pointer (some ⟨EB,0,none⟩)]:Array Value).size) undef= #[.pointer (some ⟨RB,0,none⟩),.pointer (some ⟨AB,0,none⟩),.pointer (some ⟨EB,0,none⟩),undef,undef,undef,undef,undef,undef,undef,undef,undef,undef]:=rfl
 rw[harr]
 apply wpS_seq
 apply wpS_region
 simp[wpOpsS,go_sem,recoverD,hu,Exit.thenS,hta]
 apply wpS_seq
 apply wpS_region
 simp[wpOpsS,go_sem,Exit.thenS]
 refine wpS_cond (t:=false) (by simp[Act.eval]) ?_
 simp only[Bool.false_eq_true,if_false]
 refine wpS_of_wp (wp_skip ?_)
 cases c₀
 simp_all [bodyPostS,results,Tryz.results110]
theorem results_3cells {P:Program} {fn:Func} {p q r:Tmp} {ty t1 t2:TypeId} (h:fn.results= #[.cell p ty,.cell q t1,.cell r t2]) (tmps:Array Value) (w:World) (a b c:Addr) (u v x:Value)
  (hp:tmps.getD p undef=.pointer (some a)) (hq:tmps.getD q undef=.pointer (some b)) (hr:tmps.getD r undef=.pointer (some c))
  (h1:(loadVar ty a).run P w=.ok u w) (h2:(loadVar t1 b).run P w=.ok v w) (h3:(loadVar t2 c).run P w=.ok x w):
  (results fn tmps).run P w=.ok (.tuple #[u,v,x]) w:=by
 have e:(results fn tmps).run P w=((asAddr (tmps.getD p undef)).run P w).andThen fun a w₁=>((loadVar ty a).run P w₁).andThen fun x w₂=>((asAddr (tmps.getD q undef)).run P w₂).andThen fun a w₁=>((loadVar t1 a).run P w₁).andThen fun y w₂=>((asAddr (tmps.getD r undef)).run P w₂).andThen fun a w₁=>((loadVar t2 a).run P w₁).andThen fun z w₂=> .ok (.tuple #[x,y,z]) w₂:=by
  simp only[results,h]
  simp[Sem.run_bind,Result.andThen]
 rw[e,hp,hq,hr]
 show((loadVar ty a).run P w).andThen _=_
 rw[h1]
 show((loadVar t1 b).run P w).andThen _=_
 rw[h2]
 show((loadVar t2 c).run P w).andThen _=_
 rw[h3]
 rfl
theorem load_one {T:TypeId} (ha:∀w,(isAgg T).run Tryz.prog w=.ok false w) {w:World} {a:Addr} {u:Value} (h:w.cell? a=some u):(loadVar T a).run Tryz.prog w=.ok u w:=by
 simp[loadVar,go_sem,ha,h]
def RdP (w:World) (s:List UInt8) (e:Ending) (w':World):Prop:=∃x:JN,e=.returned (.tuple #[.agg x.cells,.int .i64 (jread s).2.1,.int .i64 (jread s).2.2])∧x.v=(jread s).1∧JIn w' x∧Mod [] w w'
theorem JVars.up {B C:Nat} {w:World} (h:JVars B w) (hb:B≤C):JVars C w:=fun w' h2=>h w' (h2.mono hb)
theorem jread_ok {s:List UInt8} {v:JV} (h:jvalue 8 s=.ok v []):jread s=(v,0,0):=by unfold jread;rw[h]
theorem jread_more {s r:List UInt8} {v:JV} (h:jvalue 8 s=.ok v r) (hr:r≠ []):jread s=(jv0,(s.length:Int) - r.length,2):=by
 unfold jread
 rw[h]
 cases r with
 | nil=>exact absurd rfl hr
 | cons c t=>rfl
theorem jread_er {s r:List UInt8} (h:jvalue 8 s=.er r):jread s=(jv0,(s.length:Int) - r.length,2):=by unfold jread;rw[h]
theorem jread_any (w:World) (s:ByteArray) (hs:s.size≤1000000) (B:Nat) (hB:B≤w.heap.size) (hj:JVars B w):
  Calls Tryz.prog 78 #[.string s] w (RdP w s.data.toList):=by
 have hmf:∀(fn:Fn) (first cap:Array Value) (w:World),(Instr.makeFunc fn first cap).run Tryz.prog w=.ok (.func fn first cap) w:=fun _ _ _ _=>rfl
 obtain⟨W1,hW1⟩:∃W1,w.alloc (.cells #[.int .i64 0,.int .i64 0,.string ⟨#[]⟩,.slice none 0 0,.slice none 0 0] 43)=W1:=⟨_,rfl⟩
 obtain⟨W2,hW2⟩:∃W2,W1.alloc (.cells #[.int .i64 0] 3)=W2:=⟨_,rfl⟩
 obtain⟨W3,hW3⟩:∃W3,W2.alloc (.cells #[.int .i64 0] 24)=W3:=⟨_,rfl⟩
 obtain⟨W4,hW4⟩:∃W4,W3.alloc (.cells #[.string s,.int .i64 0] 135)=W4:=⟨_,rfl⟩
 have z1:W1.heap.size=w.heap.size+1:=by rw[←hW1];exact World.size_alloc _ _
 have z2:W2.heap.size=w.heap.size+2:=by rw[←hW2,World.size_alloc,z1]
 have z3:W3.heap.size=w.heap.size+3:=by rw[←hW3,World.size_alloc,z2]
 have hRB1:Blk W1 w.heap.size 43 #[.int .i64 0,.int .i64 0,.string ⟨#[]⟩,.slice none 0 0,.slice none 0 0]:=by rw[←hW1];exact Blk.new _ _ _
 have hAB2:Blk W2 (w.heap.size+1) 3 #[.int .i64 0]:=by rw[←hW2,←z1];exact Blk.new _ _ _
 have hEB3:Blk W3 (w.heap.size+2) 24 #[.int .i64 0]:=by rw[←hW3,←z2];exact Blk.new _ _ _
 have hP4:Blk W4 (w.heap.size+3) 135 #[.string s,.int .i64 0]:=by rw[←hW4,←z3];exact Blk.new _ _ _
 have hRB4:Blk W4 w.heap.size 43 #[.int .i64 0,.int .i64 0,.string ⟨#[]⟩,.slice none 0 0,.slice none 0 0]:=by rw[←hW4,←hW3,←hW2];exact((hRB1.alloc _).alloc _).alloc _
 have hAB4:Blk W4 (w.heap.size+1) 3 #[.int .i64 0]:=by rw[←hW4,←hW3];exact(hAB2.alloc _).alloc _
 have hEB4:Blk W4 (w.heap.size+2) 24 #[.int .i64 0]:=by rw[←hW4];exact hEB3.alloc _
 have hm4:Mod [] w W4:=by rw[←hW4,←hW3,←hW2,←hW1];exact((((Mod.refl [] w).alloc _).alloc _).alloc _).alloc _
 have hrd4:Rd W4 (w.heap.size+3) s 0:=⟨hP4,Nat.zero_le _,hs⟩
 have hj4:JVars (w.heap.size+3) W4:=(hj.mod hm4 hB (by simp)).up (by omega)
 have hval:=value_any 8 (Nat.le_refl _) W4 (w.heap.size+3) 0 s hrd4 hj4
 rw[show(9:Int) - ((8:Nat):Int)=1 from rfl,show rst s 0=s.data.toList from rfl]at hval
 have HV:=hide hval
 have HRB4:=hide hRB4
 have HAB4:=hide hAB4
 have HEB4:=hide hEB4
 have HM4:=hide hm4
 have HRd4:=hide hrd4
 clear hRB1 hAB2 hEB3 hP4 hRB4 hAB4 hEB4 hm4 hrd4 hj4 hval hj
 go_enter_defers Tryz.func78,Tryz.ntmps78
 go_wp2_with fail
 refine HV.out.mono ?_
 rintro e W5 ⟨m5,hp⟩
 have HM5:=hide (HM4.out.trans m5 (by simp))
 have HRB5:=hide (m5.blk HRB4.out (by simp))
 have HAB5:=hide (m5.blk HAB4.out (by simp))
 have HEB5:=hide (m5.blk HEB4.out (by simp))
 cases hx:jvalue 8 s.data.toList with
 | er r=>
  rw[hx]at hp
  obtain⟨k,rfl,h1,h2⟩:=hp
  have HE:Hid (jread s.data.toList=(jv0,(k:Int),2)):=hide (by
   rw[jread_er hx]
   have:=rst_len s h1
   rw[h2]at this
   rw[jbytes_len,this]
   congr 2
   omega)
  clear m5 hx h2
  unfold pan
  dsimp only
  refine leaves_cons (f:=110) (args:= #[.pointer (some ⟨w.heap.size,0,none⟩),.pointer (some ⟨w.heap.size+1,0,none⟩),.pointer (some ⟨w.heap.size+2,0,none⟩)]) (by simp) (by simp[go_sem]) ?_
  refine(catch_panicking W5 w.heap.size (w.heap.size+1) (w.heap.size+2) k [] _ _ _ _ _ _ _ (HRB5.out.cell 0) (HRB5.out.frozen 0) (HRB5.out.cell 1) (HRB5.out.frozen 1) (HRB5.out.cell 2) (HRB5.out.frozen 2) (HRB5.out.cell 3) (HRB5.out.frozen 3) (HRB5.out.cell 4) (HRB5.out.frozen 4) (HAB5.out.cell 0) (HAB5.out.frozen 0) (HEB5.out.cell 0) (HEB5.out.frozen 0) (by omega) (by omega) (by omega)).mono ?_
  rintro e u' W6 ⟨rfl,rfl,rfl⟩
  simp[Leaves,settle,go_sem]
  have hj:=jsets_mod W5 w.heap.size #[.int .i64 0,.int .i64 0,.string ⟨#[]⟩,.slice none 0 0,.slice none 0 0]
  have hb6:Blk (((jsets W5 w.heap.size #[.int .i64 0,.int .i64 0,.string ⟨#[]⟩,.slice none 0 0,.slice none 0 0]).setCell ⟨w.heap.size+1,0,none⟩ (.int .i64 (k:Nat))).setCell ⟨w.heap.size+2,0,none⟩ (.int .i64 2)) w.heap.size 43 #[.int .i64 0,.int .i64 0,.string ⟨#[]⟩,.slice none 0 0,.slice none 0 0]:=((jsets_blk #[.int .i64 0,.int .i64 0,.string ⟨#[]⟩,.slice none 0 0,.slice none 0 0] HRB5.out rfl rfl).far (p:=⟨w.heap.size+1,0,none⟩) (by show w.heap.size≠w.heap.size+1;omega) _).far (p:=⟨w.heap.size+2,0,none⟩) (by show w.heap.size≠w.heap.size+2;omega) _
  have ha6:Blk (((jsets W5 w.heap.size #[.int .i64 0,.int .i64 0,.string ⟨#[]⟩,.slice none 0 0,.slice none 0 0]).setCell ⟨w.heap.size+1,0,none⟩ (.int .i64 (k:Nat))).setCell ⟨w.heap.size+2,0,none⟩ (.int .i64 2)) (w.heap.size+1) 3 #[.int .i64 (k:Nat)]:=((hj.blk HAB5.out (by simp)).set_ 0 (.int .i64 (k:Nat))).far (p:=⟨w.heap.size+2,0,none⟩) (by show w.heap.size+1≠w.heap.size+2;omega) _
  have he6:Blk (((jsets W5 w.heap.size #[.int .i64 0,.int .i64 0,.string ⟨#[]⟩,.slice none 0 0,.slice none 0 0]).setCell ⟨w.heap.size+1,0,none⟩ (.int .i64 (k:Nat))).setCell ⟨w.heap.size+2,0,none⟩ (.int .i64 2)) (w.heap.size+2) 24 #[.int .i64 2]:=((hj.blk HEB5.out (by simp)).far (p:=⟨w.heap.size+1,0,none⟩) (by show w.heap.size+2≠w.heap.size+1;omega) _).set_ 0 (.int .i64 2)
  have hm6:Mod [] w (((jsets W5 w.heap.size #[.int .i64 0,.int .i64 0,.string ⟨#[]⟩,.slice none 0 0,.slice none 0 0]).setCell ⟨w.heap.size+1,0,none⟩ (.int .i64 (k:Nat))).setCell ⟨w.heap.size+2,0,none⟩ (.int .i64 2)):=((HM5.out.trans hj (by simp)).setCell (p:=⟨w.heap.size+1,0,none⟩) (.inr (by show w.heap.size≤w.heap.size+1;omega)) _).setCell (p:=⟨w.heap.size+2,0,none⟩) (.inr (by show w.heap.size≤w.heap.size+2;omega)) _
  refine⟨_,results_3cells rfl _ _ ⟨w.heap.size,0,none⟩ ⟨w.heap.size+1,0,none⟩ ⟨w.heap.size+2,0,none⟩ (.agg #[.int .i64 0,.int .i64 0,.string ⟨#[]⟩,.slice none 0 0,.slice none 0 0]) (.int .i64 (k:Nat)) (.int .i64 2) rfl rfl rfl (run_loadVar_row _ w.heap.size 43 43 #[.int .i64 0,.int .i64 0,.string ⟨#[]⟩,.slice none 0 0,.slice none 0 0] (0,0) _ hb6 Tryz.underlying43 rfl (by kernel_rfl)) (load_one Tryz.isAgg3 (ha6.cell 0)) (load_one Tryz.isAgg24 (he6.cell 0)),?_⟩
  refine⟨JN.mk 0 0 ⟨#[]⟩ none 0 [] none 0 [],?_,?_,JIn.plain _ _ _ _,hm6⟩
  ·rw[HE.out];rfl
  ·rw[HE.out];rfl
 | ok v r=>
  rw[hx]at hp
  obtain⟨k,u,rfl,⟨x,rfl,rfl,hxi,hxf⟩,h1,h2⟩:=hp
  obtain⟨d0,d1,d2,d3,n3,q3,d4,n4,q4,hcx⟩:=cells5 x
  have HCx:=hide hcx
  rw[hcx]
  have HX:=hide hxi
  have hjm:=jsets_mod W5 w.heap.size #[.int .i64 d0,.int .i64 d1,.string d2,.slice d3 n3 q3,.slice d4 n4 q4]
  have HF:Hid (∀g∈JFoot x,w.heap.size+3 < g):=hide (fun g hg=>by
   have:=(hxf g hg).1
   have:=HRd4.out.blk.lt
   omega)
  have HX6:=hide (JIn.mod hjm (fun g hg=>by have:=HF.out g hg;simp;omega) hxi)
  have HM6:=hide (HM5.out.trans hjm (by simp))
  have HRB6:=hide (jsets_blk #[.int .i64 d0,.int .i64 d1,.string d2,.slice d3 n3 q3,.slice d4 n4 q4] HRB5.out rfl rfl)
  have HAB6:=hide (hjm.blk HAB5.out (by simp))
  have HEB6:=hide (hjm.blk HEB5.out (by simp))
  have HR6:=hide (h1.mod hjm (by simp))
  have HK:=hide h1.le
  have HL:=hide h2
  have HXx:=hide hx
  clear m5 hxi hxf h1 h2 hcx hjm hx
  have c0:W5.cell? ⟨w.heap.size,0,none⟩=some (.int .i64 0):=HRB5.out.cell 0
  have f0:W5.frozen? ⟨w.heap.size,0,none⟩=false:=HRB5.out.frozen 0
  have c1:W5.cell? ⟨w.heap.size,1,none⟩=some (.int .i64 0):=HRB5.out.cell 1
  have f1:W5.frozen? ⟨w.heap.size,1,none⟩=false:=HRB5.out.frozen 1
  have c2:W5.cell? ⟨w.heap.size,2,none⟩=some (.string ⟨#[]⟩):=HRB5.out.cell 2
  have f2:W5.frozen? ⟨w.heap.size,2,none⟩=false:=HRB5.out.frozen 2
  have c3:W5.cell? ⟨w.heap.size,3,none⟩=some (.slice none 0 0):=HRB5.out.cell 3
  have f3:W5.frozen? ⟨w.heap.size,3,none⟩=false:=HRB5.out.frozen 3
  have c4:W5.cell? ⟨w.heap.size,4,none⟩=some (.slice none 0 0):=HRB5.out.cell 4
  have f4:W5.frozen? ⟨w.heap.size,4,none⟩=false:=HRB5.out.frozen 4
  go_upto_region 4 with(fail)
  obtain⟨W6,hW6⟩:∃W6,jsets W5 w.heap.size #[.int .i64 d0,.int .i64 d1,.string d2,.slice d3 n3 q3,.slice d4 n4 q4]=W6:=⟨_,rfl⟩
  have hW7:=hW6
  simp only[jsets,show List.range 5= [0,1,2,3,4]from rfl,List.foldl_cons,List.foldl_nil]at hW7
  rw[hW6]at HX6 HM6 HRB6 HAB6 HEB6 HR6
  first | rw[hW7] | erw [hW7]
  clear hW6 hW7 c0 f0 c1 f1 c2 f2 c3 f3 c4 f4
  have p0:W6.cell? ⟨w.heap.size+3,0,none⟩=some (.string s):=HR6.out.blk.cell 0
  have p1:W6.cell? ⟨w.heap.size+3,1,none⟩=some (.int .i64 (k:Nat)):=HR6.out.blk.cell 1
  by_cases hlt:k < s.size
  ·have g1:decide ((k:Int) < s.size)=true:=decide_eq_true (by omega)
   have g2:decide (k < s.size)=true:=decide_eq_true hlt
   have HE2:Hid (jread s.data.toList=(jv0,(k:Int),2)):=hide (by
    have hl:=rst_len s HK.out
    rw[HL.out]at hl
    rw[jread_more HXx.out (by intro e;rw[e]at hl;simp at hl;omega),jbytes_len,hl]
    congr 2
    omega)
   clear hlt
   go_wp2_with fail
   refine(fail_any W6 (w.heap.size+3) k s HR6.out).mono ?_
   rintro e W7 ⟨rfl,rfl⟩
   unfold pan
   dsimp only
   refine leaves_cons (f:=110) (args:= #[.pointer (some ⟨w.heap.size,0,none⟩),.pointer (some ⟨w.heap.size+1,0,none⟩),.pointer (some ⟨w.heap.size+2,0,none⟩)]) (by simp) (by simp[go_sem]) ?_
   refine(catch_panicking W7 w.heap.size (w.heap.size+1) (w.heap.size+2) k [] _ _ _ _ _ _ _ (HRB6.out.cell 0) (HRB6.out.frozen 0) (HRB6.out.cell 1) (HRB6.out.frozen 1) (HRB6.out.cell 2) (HRB6.out.frozen 2) (HRB6.out.cell 3) (HRB6.out.frozen 3) (HRB6.out.cell 4) (HRB6.out.frozen 4) (HAB6.out.cell 0) (HAB6.out.frozen 0) (HEB6.out.cell 0) (HEB6.out.frozen 0) (by omega) (by omega) (by omega)).mono ?_
   rintro e u' W8 ⟨rfl,rfl,rfl⟩
   simp[Leaves,settle,go_sem]
   have hj:=jsets_mod W7 w.heap.size #[.int .i64 0,.int .i64 0,.string ⟨#[]⟩,.slice none 0 0,.slice none 0 0]
   have hb6:Blk (((jsets W7 w.heap.size #[.int .i64 0,.int .i64 0,.string ⟨#[]⟩,.slice none 0 0,.slice none 0 0]).setCell ⟨w.heap.size+1,0,none⟩ (.int .i64 (k:Nat))).setCell ⟨w.heap.size+2,0,none⟩ (.int .i64 2)) w.heap.size 43 #[.int .i64 0,.int .i64 0,.string ⟨#[]⟩,.slice none 0 0,.slice none 0 0]:=((jsets_blk #[.int .i64 0,.int .i64 0,.string ⟨#[]⟩,.slice none 0 0,.slice none 0 0] HRB6.out rfl rfl).far (p:=⟨w.heap.size+1,0,none⟩) (by show w.heap.size≠w.heap.size+1;omega) _).far (p:=⟨w.heap.size+2,0,none⟩) (by show w.heap.size≠w.heap.size+2;omega) _
   have ha6:Blk (((jsets W7 w.heap.size #[.int .i64 0,.int .i64 0,.string ⟨#[]⟩,.slice none 0 0,.slice none 0 0]).setCell ⟨w.heap.size+1,0,none⟩ (.int .i64 (k:Nat))).setCell ⟨w.heap.size+2,0,none⟩ (.int .i64 2)) (w.heap.size+1) 3 #[.int .i64 (k:Nat)]:=((hj.blk HAB6.out (by simp)).set_ 0 (.int .i64 (k:Nat))).far (p:=⟨w.heap.size+2,0,none⟩) (by show w.heap.size+1≠w.heap.size+2;omega) _
   have he6:Blk (((jsets W7 w.heap.size #[.int .i64 0,.int .i64 0,.string ⟨#[]⟩,.slice none 0 0,.slice none 0 0]).setCell ⟨w.heap.size+1,0,none⟩ (.int .i64 (k:Nat))).setCell ⟨w.heap.size+2,0,none⟩ (.int .i64 2)) (w.heap.size+2) 24 #[.int .i64 2]:=((hj.blk HEB6.out (by simp)).far (p:=⟨w.heap.size+1,0,none⟩) (by show w.heap.size+2≠w.heap.size+1;omega) _).set_ 0 (.int .i64 2)
   have hm6:Mod [] w (((jsets W7 w.heap.size #[.int .i64 0,.int .i64 0,.string ⟨#[]⟩,.slice none 0 0,.slice none 0 0]).setCell ⟨w.heap.size+1,0,none⟩ (.int .i64 (k:Nat))).setCell ⟨w.heap.size+2,0,none⟩ (.int .i64 2)):=((HM6.out.trans hj (by simp)).setCell (p:=⟨w.heap.size+1,0,none⟩) (.inr (by show w.heap.size≤w.heap.size+1;omega)) _).setCell (p:=⟨w.heap.size+2,0,none⟩) (.inr (by show w.heap.size≤w.heap.size+2;omega)) _
   refine⟨_,results_3cells rfl _ _ ⟨w.heap.size,0,none⟩ ⟨w.heap.size+1,0,none⟩ ⟨w.heap.size+2,0,none⟩ (.agg #[.int .i64 0,.int .i64 0,.string ⟨#[]⟩,.slice none 0 0,.slice none 0 0]) (.int .i64 (k:Nat)) (.int .i64 2) rfl rfl rfl (run_loadVar_row _ w.heap.size 43 43 #[.int .i64 0,.int .i64 0,.string ⟨#[]⟩,.slice none 0 0,.slice none 0 0] (0,0) _ hb6 Tryz.underlying43 rfl (by kernel_rfl)) (load_one Tryz.isAgg3 (ha6.cell 0)) (load_one Tryz.isAgg24 (he6.cell 0)),?_⟩
   refine⟨JN.mk 0 0 ⟨#[]⟩ none 0 [] none 0 [],?_,?_,JIn.plain _ _ _ _,hm6⟩
   ·rw[HE2.out];rfl
   ·rw[HE2.out];rfl
  ·have hk:k=s.size:=by have:=HK.out;omega
   have g1:decide ((k:Int) < s.size)=false:=decide_eq_false (by omega)
   have g2:decide (k < s.size)=false:=decide_eq_false hlt
   have HE2:Hid (jread s.data.toList=(x.v,0,0)):=hide (by
    have hl:=rst_len s HK.out
    rw[HL.out,hk,Nat.sub_self]at hl
    obtain rfl:=List.eq_nil_of_length_eq_zero hl
    exact jread_ok HXx.out)
   clear hk hlt
   have c0:W6.cell? ⟨w.heap.size,0,none⟩=some (.int .i64 d0):=HRB6.out.cell 0
   have f0:W6.frozen? ⟨w.heap.size,0,none⟩=false:=HRB6.out.frozen 0
   have c1:W6.cell? ⟨w.heap.size,1,none⟩=some (.int .i64 d1):=HRB6.out.cell 1
   have f1:W6.frozen? ⟨w.heap.size,1,none⟩=false:=HRB6.out.frozen 1
   have c2:W6.cell? ⟨w.heap.size,2,none⟩=some (.string d2):=HRB6.out.cell 2
   have f2:W6.frozen? ⟨w.heap.size,2,none⟩=false:=HRB6.out.frozen 2
   have c3:W6.cell? ⟨w.heap.size,3,none⟩=some (.slice d3 n3 q3):=HRB6.out.cell 3
   have f3:W6.frozen? ⟨w.heap.size,3,none⟩=false:=HRB6.out.frozen 3
   have c4:W6.cell? ⟨w.heap.size,4,none⟩=some (.slice d4 n4 q4):=HRB6.out.cell 4
   have f4:W6.frozen? ⟨w.heap.size,4,none⟩=false:=HRB6.out.frozen 4
   have ca:W6.cell? ⟨w.heap.size+1,0,none⟩=some (.int .i64 0):=HAB6.out.cell 0
   have fa:W6.frozen? ⟨w.heap.size+1,0,none⟩=false:=HAB6.out.frozen 0
   have ce:W6.cell? ⟨w.heap.size+2,0,none⟩=some (.int .i64 0):=HEB6.out.cell 0
   have fe:W6.frozen? ⟨w.heap.size+2,0,none⟩=false:=HEB6.out.frozen 0
   go_wp2_with fail
   refine leaves_cons (f:=110) (args:= #[.pointer (some ⟨w.heap.size,0,none⟩),.pointer (some ⟨w.heap.size+1,0,none⟩),.pointer (some ⟨w.heap.size+2,0,none⟩)]) (by simp) (by simp[go_sem]) ?_
   refine(catch_idle _ w.heap.size (w.heap.size+1) (w.heap.size+2)).mono ?_
   rintro e u' W8 ⟨rfl,rfl,rfl⟩
   simp[Leaves,settle,go_sem]
   have hj:=jsets_mod W6 w.heap.size #[.int .i64 d0,.int .i64 d1,.string d2,.slice d3 n3 q3,.slice d4 n4 q4]
   have hb6:Blk (((jsets W6 w.heap.size #[.int .i64 d0,.int .i64 d1,.string d2,.slice d3 n3 q3,.slice d4 n4 q4]).setCell ⟨w.heap.size+1,0,none⟩ (.int .i64 0)).setCell ⟨w.heap.size+2,0,none⟩ (.int .i64 0)) w.heap.size 43 #[.int .i64 d0,.int .i64 d1,.string d2,.slice d3 n3 q3,.slice d4 n4 q4]:=((jsets_blk #[.int .i64 d0,.int .i64 d1,.string d2,.slice d3 n3 q3,.slice d4 n4 q4] HRB6.out rfl rfl).far (p:=⟨w.heap.size+1,0,none⟩) (by show w.heap.size≠w.heap.size+1;omega) _).far (p:=⟨w.heap.size+2,0,none⟩) (by show w.heap.size≠w.heap.size+2;omega) _
   have ha6:Blk (((jsets W6 w.heap.size #[.int .i64 d0,.int .i64 d1,.string d2,.slice d3 n3 q3,.slice d4 n4 q4]).setCell ⟨w.heap.size+1,0,none⟩ (.int .i64 0)).setCell ⟨w.heap.size+2,0,none⟩ (.int .i64 0)) (w.heap.size+1) 3 #[.int .i64 0]:=((hj.blk HAB6.out (by simp)).set_ 0 (.int .i64 0)).far (p:=⟨w.heap.size+2,0,none⟩) (by show w.heap.size+1≠w.heap.size+2;omega) _
   have he6:Blk (((jsets W6 w.heap.size #[.int .i64 d0,.int .i64 d1,.string d2,.slice d3 n3 q3,.slice d4 n4 q4]).setCell ⟨w.heap.size+1,0,none⟩ (.int .i64 0)).setCell ⟨w.heap.size+2,0,none⟩ (.int .i64 0)) (w.heap.size+2) 24 #[.int .i64 0]:=((hj.blk HEB6.out (by simp)).far (p:=⟨w.heap.size+1,0,none⟩) (by show w.heap.size+2≠w.heap.size+1;omega) _).set_ 0 (.int .i64 0)
   have hm6:Mod [] w (((jsets W6 w.heap.size #[.int .i64 d0,.int .i64 d1,.string d2,.slice d3 n3 q3,.slice d4 n4 q4]).setCell ⟨w.heap.size+1,0,none⟩ (.int .i64 0)).setCell ⟨w.heap.size+2,0,none⟩ (.int .i64 0)):=((HM6.out.trans hj (by simp)).setCell (p:=⟨w.heap.size+1,0,none⟩) (.inr (by show w.heap.size≤w.heap.size+1;omega)) _).setCell (p:=⟨w.heap.size+2,0,none⟩) (.inr (by show w.heap.size≤w.heap.size+2;omega)) _
   have hjm:Mod [w.heap.size,w.heap.size+1,w.heap.size+2] W6 (((jsets W6 w.heap.size #[.int .i64 d0,.int .i64 d1,.string d2,.slice d3 n3 q3,.slice d4 n4 q4]).setCell ⟨w.heap.size+1,0,none⟩ (.int .i64 0)).setCell ⟨w.heap.size+2,0,none⟩ (.int .i64 0)):=((hj.mono (by simp)).setCell (p:=⟨w.heap.size+1,0,none⟩) (.inl (by simp)) _).setCell (p:=⟨w.heap.size+2,0,none⟩) (.inl (by simp)) _
   have hx9:=JIn.mod hjm (fun g hg=>by have:=HF.out g hg;simp;omega) HX6.out
   refine⟨_,results_3cells rfl _ _ ⟨w.heap.size,0,none⟩ ⟨w.heap.size+1,0,none⟩ ⟨w.heap.size+2,0,none⟩ (.agg #[.int .i64 d0,.int .i64 d1,.string d2,.slice d3 n3 q3,.slice d4 n4 q4]) (.int .i64 0) (.int .i64 0) rfl rfl rfl (run_loadVar_row _ w.heap.size 43 43 #[.int .i64 d0,.int .i64 d1,.string d2,.slice d3 n3 q3,.slice d4 n4 q4] (0,0) _ hb6 Tryz.underlying43 rfl (by kernel_rfl)) (load_one Tryz.isAgg3 (ha6.cell 0)) (load_one Tryz.isAgg24 (he6.cell 0)),?_⟩
   refine⟨x,?_,?_,hx9,hm6⟩
   ·rw[HE2.out,HCx.out]
   ·rw[HE2.out]
end Go.Proofs.YtlfjhgamlkbofaaGreatDoor
