/-
  Contracts of the functions that the laws of this seat reach, and plain laws, part 15 of 17; no condition.
-/
import Derived.Test.YtlfjhgamlkbofaaGreatDoorWJ3
import Derived.Test.YtlfjhgamlkbofaaGreatDoorWC
import Derived.Test.YtlfjhgamlkbofaaGreatDoorWJ2
set_option linter.unusedVariables false
set_option linter.unusedSimpArgs false
set_option linter.unnecessarySimpa false
set_option maxRecDepth 100000
set_option maxHeartbeats 16000000
namespace Go.Proofs.YtlfjhgamlkbofaaGreatDoor
open Go.RowKit Js Go.Sort
theorem JN.open5 (x:JN):∃A c n B d m,x.cells= #[.int .i64 x.v.k,.int .i64 x.v.i,.string x.v.t,.slice A n c,.slice B m d]∧n=x.v.l.length∧m=x.v.ks.length:=by
 cases x with
 | mk k i t A c l B d ks=>exact⟨A,c,l.length,B,d,ks.length,by rw[JN.v];rfl,by rw[JN.v];exact(JN.vs_len l).symm,by rw[JN.v];rfl⟩
theorem zo8 {d:Nat} {k i:Int} {t:ByteArray} {l:List JV} {ks:List ByteArray} (h:k < 0∨6 < k∨(k≠3∧i≠0)∨(k≠4∧t.size≠0)∨(k < 5∧l≠ [])∨(k≠6∧ks≠ [])∨(k=6∧ks.length≠l.length)):q27 d (.mk k i t l ks)=false:=by
 cases hb:q27 d (.mk k i t l ks)with
 | false=>rfl
 | true=>
  exfalso;rw[q27]at hb;simp only[Bool.and_eq_true,Bool.or_eq_true,decide_eq_true_eq]at hb;obtain⟨⟨⟨⟨⟨⟨h1,h2⟩,h3⟩,h4⟩,h5⟩,h6⟩,h7⟩:=hb;rcases h with h | h | ⟨ha,h⟩ | ⟨ha,h⟩ | ⟨ha,h⟩ | ⟨ha,h⟩ | ⟨ha,h⟩
  ·omega
  ·omega
  ·rcases h3 with h3 | h3 <;> contradiction
  ·rcases h4 with h4 | h4 <;> contradiction
  ·rcases h5 with(h5 | h5) | h5
   ·omega
   ·omega
   ·exact h (by simpa using h5)
  ·rw[if_neg ha]at h6;exact h (by simpa using h6)
  ·rw[if_pos ha]at h6;exact h (by simpa using h6)
theorem ze0 {d:Nat} {k i:Int} {t:ByteArray} {l:List JV} {ks:List ByteArray} (h0:0≤k) (h6:k≤6) (h1:k=3∨i=0) (h2:k=4∨t.size=0) (h3:5≤k∨l= []) (h4:k=6∨ks= []) (h5:k=6→ks.length=l.length):q27 (d+1) (.mk k i t l ks)=q61 d l:=by
 rw[q27];have e1:decide (0 < d+1)=true:=decide_eq_true (by omega);have e2:(decide (k=0) || decide (k=1) || decide (k=2) || decide (k=3) || decide (k=4) || decide (k=5) || decide (k=6))=true:=(by simp only[Bool.or_eq_true,decide_eq_true_eq];omega);have e3:(decide (k=3) || decide (i=0))=true:=(by simpa using h1);have e4:(decide (k=4) || decide (t.size=0))=true:=(by simpa using h2);have e5:(decide (k=5) || decide (k=6) || l.isEmpty)=true:=by
  simp only[Bool.or_eq_true,decide_eq_true_eq];rcases h3 with h3 | h3
  ·left;omega
  ·right;rw[h3];rfl
 have e6:(if k=6 then decide (ks.length=l.length)else ks.isEmpty)=true:=by
  by_cases hk:k=6
  ·rw[if_pos hk];exact decide_eq_true (h5 hk)
  ·rw[if_neg hk];rcases h4 with h4 | h4
   ·exact absurd h4 hk
   ·rw[h4];rfl
 rw[e1,e2,e3,e4,e5,e6];rfl
theorem j34 {d:Nat} :∀ {l:List JV} {i:Nat} {x:JV},l[i]? =some x→q27 d x=false→q61 d l=false
 | y ::l,0,x,h,hx=>by cases h;rw[q61,hx];rfl
 | y ::l,i+1,x,h,hx=>by rw[q61,j34 (l:=l) (by simpa using h) hx,Bool.and_false]
def jh3 (d:Nat):Prop:=∀(w:World) (x:JN),JIn w x→
 Calls Tryz.prog 123 #[.agg x.cells,.int .i64 (9 - (d:Int))] w fun e w'=>e=.returned (.bool (q27 d x.v))∧Mod [] w w'
theorem z73:jh3 0:=by intro w x hx;obtain⟨xk,xi,xt,xA,xc,xl,xB,xd,xs⟩:=x;have hr:=q00 (show q27 0 (JN.mk xk xi xt xA xc xl xB xd xs).v=false by rw[JN.v,q27];simp);rw[hr.out,show(9:Int) - ((0:Nat):Int)=9 from rfl];simp only[JN.cells];clear hx;go_enter Tryz.func123,Tryz.ntmps123;go_wp2_with fail;go_ret;exact⟨rfl,(Mod.refl [] w).alloc _⟩
theorem z71 (d:Nat) (hd:d+1≤8) (hW:jh3 d):jh3 (d+1):=by
 intro w x hx;obtain⟨k,i,t,A,c,l,B,e,ks⟩:=x;rw[JIn]at hx;obtain⟨⟨hx1,hx2,_⟩,_,hx4,hx5⟩:=hx;rw[show(9:Int) - ((d+1:Nat):Int)=8 - d by omega];obtain⟨n,hn⟩:∃n,l.length=n:=⟨_,rfl⟩;obtain⟨m,hm⟩:∃m,ks.length=m:=⟨_,rfl⟩;obtain⟨q,hq⟩:∃q:Int,q=8 - (d:Int):=⟨_,rfl⟩;have q1:¬8 < q:=(by omega);have q2:0≤q:=(by omega);have q3:decide (8 < q)=false:=decide_eq_false q1;have HQ:Hid (IntKind.i64.wrap (q+1)=9 - (d:Int)):=q00 (by rw[IntWalk.i64_in _ (by omega)];omega);unfold q99 at hx1 hx2;have hvl:(JN.vs l).length=n:=(by rw[JN.vs_len,hn]);obtain⟨b,hb⟩:∃b,q27 (d+1) (JN.mk k i t A c l B e ks).v=b:=⟨_,rfl⟩;have HNo:Hid (_→b=false):=q00 (fun h=>by rw[←hb,JN.v];exact zo8 (d:=d+1) (l:=JN.vs l) (ks:=ks) h);have HYes:Hid (_→_→_→_→_→_→_→b=q61 d (JN.vs l)):=q00 (fun h0 h6 h1 h2 h3 h4 h5=>by rw[←hb,JN.v];exact ze0 (d:=d) (l:=JN.vs l) (ks:=ks) h0 h6 h1 h2 h3 h4 h5);rw[hb];simp only[JN.cells];rw[hn,hm,←hq];have HN:=q00 hn;have HMm:=q00 hm;have HVl:=q00 hvl;have HW:=q00 hW;have HR:=q00 hx4;have HI:=q00 hx5;rw[hn]at hx1;rw[hm]at hx2;have HM1:=q00 ((Mod.refl [] w).alloc (.cells #[.int .i64 k,.int .i64 i,.string t,.slice A n c,.slice B m e] 43));have HB1:=q00 (Blk.new w 43 #[.int .i64 k,.int .i64 i,.string t,.slice A n c,.slice B m e]);clear hx4 hx5 hn hm hW hq hb hvl;rcases hem (k < 0∨6 < k)with p0 | p0;rotate_left;rcases hem (k≠3∧i≠0)with p1 | p1;rotate_left;rcases hem (k≠4∧0 < t.size)with p2 | p2;rotate_left;rcases hem (k < 5∧0 < n)with p3 | p3;rotate_left;rcases hem (k≠6∧0 < m)with p4 | p4;rotate_left;rcases hem (k=6∧m≠n)with p5 | p5;rotate_left;rotate_left;all_goals
  have cls:k < 0∨6 < k∨(0≤k∧k≤2)∨k=3∨k=4∨k=5∨k=6:=by omega
  rcases cls with h | h | h | h | h | h | h
 all_goals
  try have h0:=p0.out
  try have h1:=p1.out
  try have h2:=p2.out
  try have h3:=p3.out
  try have h4:=p4.out
  try have h5:=p5.out
  first | (exfalso;omega) | skip
 all_goals
  first | have z0:decide (k < 0)=true:=decide_eq_true (by omega) | have z0:decide (k < 0)=false:=decide_eq_false (by omega)
  first | have z1:decide (6 < k)=true:=decide_eq_true (by omega) | have z1:decide (6 < k)=false:=decide_eq_false (by omega)
  first | have z3:(k !=3)=true:=bne_iff_ne.2 (by omega) | have z3:(k !=3)=false:=bne_eq_false_iff_eq.2 (by omega)
  first | have z4:(k !=4)=true:=bne_iff_ne.2 (by omega) | have z4:(k !=4)=false:=bne_eq_false_iff_eq.2 (by omega)
  first | have z5:decide (k < 5)=true:=decide_eq_true (by omega) | have z5:decide (k < 5)=false:=decide_eq_false (by omega)
  first | have z6:(k !=6)=true:=bne_iff_ne.2 (by omega) | have z6:(k !=6)=false:=bne_eq_false_iff_eq.2 (by omega)
  first | have z7:(k==6)=true:=beq_iff_eq.2 (by omega) | have z7:(k==6)=false:=beq_eq_false_iff_ne.2 (by omega)
  first | have y1:(i !=0)=true:=bne_iff_ne.2 (by omega) | have y1:(i !=0)=false:=bne_eq_false_iff_eq.2 (by omega) | skip
  first | have y2:decide ((0:Int) < (t.size:Int))=true:=decide_eq_true (by omega) | have y2:decide ((0:Int) < (t.size:Int))=false:=decide_eq_false (by omega) | skip
  first | have x2:decide (0 < t.size)=true:=decide_eq_true (by omega) | have x2:decide (0 < t.size)=false:=decide_eq_false (by omega) | skip
  first | have y3:decide ((0:Int) < (n:Int))=true:=decide_eq_true (by omega) | have y3:decide ((0:Int) < (n:Int))=false:=decide_eq_false (by omega) | skip
  first | have x3:decide (0 < n)=true:=decide_eq_true (by omega) | have x3:decide (0 < n)=false:=decide_eq_false (by omega) | skip
  first | have y4:decide ((0:Int) < (m:Int))=true:=decide_eq_true (by omega) | have y4:decide ((0:Int) < (m:Int))=false:=decide_eq_false (by omega) | skip
  first | have x4:decide (0 < m)=true:=decide_eq_true (by omega) | have x4:decide (0 < m)=false:=decide_eq_false (by omega) | skip
  first | have y5:((m:Int) !=(n:Int))=true:=bne_iff_ne.2 (by omega) | have y5:((m:Int) !=(n:Int))=false:=bne_eq_false_iff_eq.2 (by omega) | skip
 all_goals first | (as_aux_lemma=>
   have HNb:Hid (b=false):=q00 (HNo.out (by
    have hv:=HVl.out
    have hm:=HMm.out
    first | exact h0.imp_right .inl | exact .inr (.inr (.inl h1)) | exact .inr (.inr (.inr (.inl ⟨h2.1,by omega⟩))) | exact .inr (.inr (.inr (.inr (.inl ⟨h3.1,fun h=>by rw[h]at hv;simp at hv;omega⟩)))) | exact .inr (.inr (.inr (.inr (.inr (.inl ⟨h4.1,fun h=>by rw[h]at hm;simp at hm;omega⟩))))) | exact .inr (.inr (.inr (.inr (.inr (.inr ⟨h5.1,by rw[hm,hv];exact h5.2⟩)))))))
   clear HNo HYes h h0
   try clear h1
   try clear h2
   try clear h3
   try clear h4
   try clear h5
   go_enter Tryz.func123,Tryz.ntmps123
   go_wp2_with fail
   go_ret
   exact⟨by rw[HNb.out];rfl,HM1.out⟩) | skip
 all_goals as_aux_lemma=>
   have HJ:=q00 (HYes.out (by omega) (by omega) (by omega) (by omega) (by
    rcases Nat.eq_zero_or_pos n with g | g
    ·exact .inr (List.eq_nil_of_length_eq_zero (by have:=HVl.out;omega))
    ·left;omega) (by
    rcases Nat.eq_zero_or_pos m with g | g
    ·exact .inr (List.eq_nil_of_length_eq_zero (by have:=HMm.out;omega))
    ·left;omega) (fun g=>by have:=HVl.out;have:=HMm.out;omega))
   clear HNo HYes h h0 h1 h2 h3 h4 h5;go_enter Tryz.func123,Tryz.ntmps123;go_wp2_with fail;(try clear y1);(try clear y2 x2);(try clear y3 x3);(try clear y4 x4);(try clear y5);clear z0 z1 z3 z4 z5 z6 z7;go_loopw [5] (fun iv wr=>∃j:Nat,j≤n∧iv=.int .i64 (j:Int)∧Hid (∀(j':Nat) (x:JN),j' < j→l[j']? =some x→q27 d x.v=true)∧Hid (Mod [] w wr)∧Hid (Blk wr w.heap.size 43 #[.int .i64 k,.int .i64 i,.string t,.slice A n c,.slice B m e])) (fun iv _=>n - (intOf iv).toNat)
   case atStart=>exact⟨0,by omega,rfl,q00 (fun j x h=>absurd h (Nat.not_lt_zero _)),HM1,HB1⟩
   case round=>
    obtain⟨j,hjn,rfl,ha,hmj,hbj⟩:=hrel;have c3:wr.cell? ⟨w.heap.size,3,none⟩=some (.slice A n c):=hbj.out.cell 3;by_cases g2:j < n
    ·have gi:(j:Int) < (n:Int):=(by omega);obtain⟨u,hu⟩:∃u,l[j]? =some u:=⟨_,List.getElem?_eq_getElem (by have:=HN.out;omega)⟩;obtain⟨g,o,rfl,hg,hc⟩:=(HR.out.new hmj.out).at_ hu;have HWu:=q00 (HW.out wr u ((HI.out.new hmj.out).at_ hu));have HU:=q00 hu;have HC:Hid (wr.rangeAt g (o+j * 5) u.cells.toList):=q00 (fun j2 x2 h2=>hc j2 x2 (by rw[←h2];simp));have a0:=HQ.out;clear hc hu g2;go_wp2_with (refine wpList_load_mid rfl 43 _ rfl g (o+j * 5) rfl u.cells.toList _ HC.out rfl rfl (by rw[Array.length_toList,u.cells_size];kernel_rfl) ?_);refine HWu.out.mono ?_;rintro e0 w3 ⟨rfl,m3⟩;have HMk:=q00 (hmj.out.trans m3 (by simp));have HBk:=q00 (m3.blk hbj.out (by simp));clear m3 a0;obtain⟨v,hv⟩:∃v,q27 d u.v=v:=⟨_,rfl⟩;have HV:=q00 hv;rw[hv];clear hv;cases v with
     | false=>go_wp2_with fail;go_ret;exact⟨by rw[HJ.out,j34 (i:=j) (x:=u.v) (by rw[JN.vs_at,HU.out];rfl) HV.out];rfl,HMk.out⟩
     | true=>
      go_wp2_with fail;refine⟨?rel,?measure⟩
      case rel=>exact⟨j+1,by omega,by go_num,q00 (fun j' x h hx=>by
       rcases Nat.lt_succ_iff_lt_or_eq.1 h with h | rfl
       ·exact ha.out j' x h hx
       ·rw[HU.out]at hx;cases hx;exact HV.out),HMk,HBk⟩
      case measure=>simp[intOf];omega
    ·have gi:decide ((j:Int) < (n:Int))=false:=decide_eq_false (by omega);have gn:decide (j < n)=false:=decide_eq_false (by omega);have HZ:Hid (q61 d (JN.vs l)=true):=q00 ((qh6 _ _).2 fun x hx=>by obtain⟨j',h'⟩:=List.mem_iff_getElem?.1 hx;rw[JN.vs_at]at h';obtain⟨u,hu,rfl⟩:=Option.map_eq_some_iff.1 h';exact ha.out j' u (by have:=(List.getElem?_eq_some_iff.1 hu).1;have:=HN.out;omega) hu);clear g2;go_wp2_with fail;go_ret;exact⟨by rw[HJ.out,HZ.out];rfl,hmj.out⟩
theorem jq3:∀d,d≤8→jh3 d
 | 0,_=>z73
 | d+1,h=>z71 d h (jq3 d (by omega))
theorem zi9 (w:World) (x:JN) (hx:JIn w x) (b:Bool) (hb:q27 8 x.v=b):
  Calls Tryz.prog 85 #[.agg x.cells] w fun e w'=>e=.returned (.bool b)∧Mod [] w w':=by
 subst hb;have H:=q00 (fun w' (m:Mod [] w w')=>jq3 8 (Nat.le_refl _) w' x (hx.new m));obtain⟨xA,xc,xn,xB,xd,xm,hcx, -, -⟩:=x.open5;rw[hcx]at H ⊢;have HM:=q00 ((Mod.refl [] w).alloc (.cells #[.int .i64 x.v.k,.int .i64 x.v.i,.string x.v.t,.slice xA xn xc,.slice xB xm xd] 43));clear hx hcx;go_enter Tryz.func85,Tryz.ntmps85;go_wp2_with fail;refine(H.out _ HM.out).mono ?_;rintro e w3 ⟨rfl,m3⟩;have HM3:=q00 (HM.out.trans m3 (by simp));clear m3;go_wp2_with fail;go_ret;exact⟨rfl,HM3.out⟩
theorem zv7:∀k:Fin 16,((⟨#[48,49,50,51,52,53,54,55,56,57,97,98,99,100,101,102]⟩:ByteArray).extract k.val (k.val+1))=⟨#[q93 k.val]⟩:=by decide
theorem j02 (w:World) (k:Nat) (hk:k < 16):Calls Tryz.prog 189 #[.int .i64 (k:Int)] w fun e w'=>e=.returned (.string ⟨#[q93 k]⟩)∧w=w':=by have HK:Hid ((⟨#[48,49,50,51,52,53,54,55,56,57,97,98,99,100,101,102]⟩:ByteArray).extract k (k+1)=⟨#[q93 k]⟩):=q00 (zv7 ⟨k,hk⟩);have a1:IntKind.i64.wrap ((k:Int)+1)=(k:Int)+1:=IntWalk.i64_in _ (by omega);obtain⟨k1,hk1⟩:∃k1,k1=k+1:=⟨_,rfl⟩;have a2:(k:Int)+1=(k1:Int):=(by omega);rw[a2]at a1;have b1:(k1:Int)≤16:=(by omega);have b2:(k:Int)≤(k1:Int):=(by omega);have b3:k1≤16:=(by omega);have b4:k≤k1:=(by omega);have HK1:=q00 hk1;clear a2 hk1;go_enter Tryz.func189,Tryz.ntmps189;go_wp2_with fail;go_ret;exact⟨by first | exact congrArg (fun s=>Ending.returned (.string s)) HK.out | (have:=HK.out;rw[←HK1.out]at this;exact congrArg (fun s=>Ending.returned (.string s)) this),rfl⟩
def qw4 (c:UInt8):ByteArray:=match qr0 c with
 | some b=>⟨#[b]⟩
 | none=>if c < 32∨126 < c then⟨#[117,48,48,q93 (c.toNat / 16),q93 (c.toNat % 16)]⟩else⟨#[]⟩
def escF:List UInt8:= [8,9,10,12,13,34,92]
theorem zt1:∀i:Fin 7,((⟨#[98,116,110,102,114,34,92]⟩:ByteArray).extract i.val (i.val+1))=qw4 (escF.getD i.val 0):=by decide
theorem zj7 {c:UInt8} (h:∀j,j < 7→escF.getD j 0≠c):qr0 c=none:=by have h0:(8:UInt8)≠c:=h 0 (by omega);have h1:(9:UInt8)≠c:=h 1 (by omega);have h2:(10:UInt8)≠c:=h 2 (by omega);have h3:(12:UInt8)≠c:=h 3 (by omega);have h4:(13:UInt8)≠c:=h 4 (by omega);have h5:(34:UInt8)≠c:=h 5 (by omega);have h6:(92:UInt8)≠c:=h 6 (by omega);unfold qr0;rw[if_neg (Ne.symm h0),if_neg (Ne.symm h1),if_neg (Ne.symm h2),if_neg (Ne.symm h3),if_neg (Ne.symm h4),if_neg (Ne.symm h5),if_neg (Ne.symm h6)]
def zn1:Array Value:= #[.int .u8 8,.int .u8 9,.int .u8 10,.int .u8 12,.int .u8 13,.int .u8 34,.int .u8 92]
theorem zn2:∀i:Fin 7,zn1[i.val]? =some (.int .u8 ((escF.getD i.val 0).toNat:Int)):=by
 intro i
 match i with
 | 0=>rfl
 | 1=>rfl
 | 2=>rfl
 | 3=>rfl
 | 4=>rfl
 | 5=>rfl
 | 6=>rfl
theorem zi8 (w:World) (c:UInt8):Calls Tryz.prog 162 #[.int .u8 (c.toNat:Int)] w fun e w'=>e=.returned (.string (qw4 c))∧Mod [] w w':=by
 obtain⟨q,hq⟩:∃q,c.toNat=q:=⟨_,rfl⟩;have HQ:=q00 hq;have hq2:=c.toNat_lt;rw[hq]at hq2;have hql:q < 256:=hq2;have HM0:=q00 ((Mod.refl [] w).alloc (.cells zn1 5));have HB0:=q00 (Blk.new w 5 zn1);unfold zn1 at HM0 HB0;rw[hq];clear hq hq2;go_enter Tryz.func162,Tryz.ntmps162;go_wp2_with fail;go_loopw [5] (fun iv wr=>∃i:Nat,i≤7∧iv=.int .i64 (i:Int)∧Hid (∀j,j < i→escF.getD j 0≠c)∧Hid (Mod [] w wr)∧Hid (Blk wr w.heap.size 5 #[.int .u8 8,.int .u8 9,.int .u8 10,.int .u8 12,.int .u8 13,.int .u8 34,.int .u8 92])) (fun iv _=>7 - (intOf iv).toNat)
 case atStart=>exact⟨0,by omega,rfl,q00 (fun j h=>absurd h (Nat.not_lt_zero _)),HM0,HB0⟩
 case round=>
  obtain⟨i,hi,rfl,htk,hmi,hbi⟩:=hrel;by_cases h2:i < 7
  ·have hii:(i:Int) < 7:=(by omega);have a1:IntKind.i64.wrap ((i:Int)+1)=(i:Int)+1:=IntWalk.i64_in _ (by omega);obtain⟨f,hf⟩:∃f,(escF.getD i 0).toNat=f:=⟨_,rfl⟩;have hc:wr.cell? ⟨w.heap.size,i,none⟩=some (.int .u8 (f:Int)):=(by rw[hbi.out.cell i];have:=zn2 ⟨i,h2⟩;rw[hf]at this;exact this);by_cases hfc:f=q
   ·have hcc:escF.getD i 0=c:=UInt8.toNat_inj.1 (by rw[hf,hfc,HQ.out]);have hkey:(⟨#[98,116,110,102,114,34,92]⟩:ByteArray).extract i (i+1)=qw4 (escF.getD i 0):=zt1 ⟨i,h2⟩;rw[hcc]at hkey;have HKey:=q00 hkey;subst hfc;obtain⟨i1,hi1⟩:∃i1,i1=i+1:=⟨_,rfl⟩;have a2:(i:Int)+1=(i1:Int):=(by omega);rw[a2]at a1;have b1:(i1:Int)≤7:=(by omega);have b2:(i:Int)≤(i1:Int):=(by omega);have b3:i1≤7:=(by omega);have b4:i≤i1:=(by omega);have HI1:=q00 hi1;clear a2 hi1 hcc hkey htk h2 hf;go_wp2_with fail;go_ret;exact⟨by first | exact congrArg (fun s=>Ending.returned (.string s)) HKey.out | (have:=HKey.out;rw[←HI1.out]at this;exact congrArg (fun s=>Ending.returned (.string s)) this),hmi.out⟩
   ·have g1:((f:Int)==(q:Int))=false:=by rw[beq_eq_false_iff_ne];omega
    have HT:Hid (∀j,j < i+1→escF.getD j 0≠c):=q00 (fun j hj=>by
     by_cases e:j=i
     ·subst e;intro e2;exact hfc (by rw[←hf,e2,HQ.out])
     ·exact htk.out j (by omega))
    clear htk h2 hf hfc;go_wp2_with fail;refine⟨?rel,?measure⟩
    case rel=>exact⟨i+1,by omega,by go_num,HT,hmi,hbi⟩
    case measure=>simp[intOf];omega
  ·have hi7:i=7:=(by omega);subst hi7;have HS:=q00 (zj7 htk.out);clear htk h2;by_cases c1:q < 32
   ·have d1:decide ((q:Int) < 32)=true:=decide_eq_true (by omega);have HE:Hid (qw4 c=⟨#[117,48,48,q93 (q / 16),q93 (q % 16)]⟩):=q00 (by unfold qw4;rw[HS.out,←HQ.out];exact if_pos (.inl (by rw[UInt8.lt_iff_toNat_lt,HQ.out];exact c1)));have HX1:=q00 (fun (w':World)=>j02 w' (q / 16) (by omega));have HX2:=q00 (fun (w':World)=>j02 w' (q % 16) (by omega));have e1:((q / 16:Nat):Int)=(q:Int) / 16:=(by omega);have e2:((q % 16:Nat):Int)=(q:Int) % 16:=(by omega);rw[e1]at HX1;rw[e2]at HX2;clear e1 e2;clear c1;go_wp2_with fail;refine(HX1.out _).mono ?_;rintro e2 w2 ⟨rfl,rfl⟩;go_wp2_with fail;refine(HX2.out _).mono ?_;rintro e2 w2 ⟨rfl,rfl⟩;go_wp2_with fail;go_ret;exact⟨by rw[HE.out];rfl,hmi.out⟩
   ·have d1:decide ((q:Int) < 32)=false:=decide_eq_false (by omega);have d1n:decide (q < 32)=false:=decide_eq_false (by omega);by_cases c2:126 < q
    ·have d2:decide ((126:Int) < (q:Int))=true:=decide_eq_true (by omega);have HE:Hid (qw4 c=⟨#[117,48,48,q93 (q / 16),q93 (q % 16)]⟩):=q00 (by unfold qw4;rw[HS.out,←HQ.out];exact if_pos (.inr (by rw[UInt8.lt_iff_toNat_lt,HQ.out];exact c2)));have HX1:=q00 (fun (w':World)=>j02 w' (q / 16) (by omega));have HX2:=q00 (fun (w':World)=>j02 w' (q % 16) (by omega));have e1:((q / 16:Nat):Int)=(q:Int) / 16:=(by omega);have e2:((q % 16:Nat):Int)=(q:Int) % 16:=(by omega);rw[e1]at HX1;rw[e2]at HX2;clear e1 e2;clear c1 c2;go_wp2_with fail;refine(HX1.out _).mono ?_;rintro e2 w2 ⟨rfl,rfl⟩;go_wp2_with fail;refine(HX2.out _).mono ?_;rintro e2 w2 ⟨rfl,rfl⟩;go_wp2_with fail;go_ret;exact⟨by rw[HE.out];rfl,hmi.out⟩
    ·have d2:decide ((126:Int) < (q:Int))=false:=decide_eq_false (by omega);have d2n:decide (126 < q)=false:=decide_eq_false (by omega);have HE:Hid (qw4 c=⟨#[]⟩):=q00 (by unfold qw4;rw[HS.out];exact if_neg (by rw[UInt8.lt_iff_toNat_lt,UInt8.lt_iff_toNat_lt,HQ.out];rintro (h | h);exact c1 h;exact c2 h));clear c1 c2;go_wp2_with fail;go_ret;exact⟨by rw[HE.out];rfl,hmi.out⟩
structure QR (w wr:World) (A:Option Addr) (c:Nat) (L:List UInt8):Prop where
 own:wr.ownsRow w.heap.size 5 1 (.slice A L.length c) L.length (L.map bv)
 mod:Mod [] w wr
theorem QR.app (w wr:World) (A:Option Addr) (c:Nat) (L:List UInt8) (h:QR w wr A c L) (hl:L.length≤1000000) (b:UInt8):
  ∃A' c' w6,(Builtin.append_ #[100,100] 100 #[.slice A L.length c,.slice (some ⟨wr.heap.size,0,none⟩) 1 1]).run Tryz.prog (wr.alloc (.cells #[.int .u8 (b.toNat:Int)] 5))=.ok (.slice A' (L.length+1) c') w6∧QR w w6 A' c' (L++ [b]):=by
 have m1:=h.mod.alloc (.cells #[.int .u8 (b.toNat:Int)] 5);have o1:=((Mod.refl [] wr).alloc (.cells #[.int .u8 (b.toNat:Int)] 5)).own h.own (by simp);obtain⟨A',c',w6,h1,h2,h3,h4⟩:=qk0 (P:=Tryz.prog) Tryz.underlying100 qx8 rfl (wr.alloc (.cells #[.int .u8 (b.toNat:Int)] 5)) 100 w.heap.size _ _ _ o1 m1.size [.int .u8 (b.toNat:Int)] rfl (by simp[Value.oneCell']) (by omega) (by omega) wr.heap.size (fun j u hu=>by rw[(Blk.new wr 5 #[.int .u8 (b.toNat:Int)]).cell j,List.getElem?_toArray,hu]);refine⟨A',c',w6,h1,⟨?_,Mod.keep m1 h3 o1 (Nat.le_refl _)⟩⟩;rw[List.map_append,List.length_append];exact h2
theorem QR.apps (w wr:World) (A:Option Addr) (c:Nat) (L:List UInt8) (h:QR w wr A c L) (s:ByteArray) (hl:L.length+s.size≤1000000):
  ∃A' c' w6,(Builtin.append_ #[100,9] 100 #[.slice A L.length c,.string s]).run Tryz.prog wr=.ok (.slice A' (L.length+s.size) c') w6∧QR w w6 A' c' (L++ s.data.toList):=by
 obtain⟨A',c',w6,h1,h2,h3,h4⟩:=j26 wr 100 w.heap.size _ _ _ s h.own (by omega) h.mod.size;refine⟨A',c',w6,h1,⟨?_,Mod.keep h.mod h3 h.own (Nat.le_refl _)⟩⟩;rw[List.map_append,List.length_append,q12];exact h2
theorem QR.conv (w wr:World) (A:Option Addr) (c:Nat) (L:List UInt8) (h:QR w wr A c L) (hL:L≠ []):
  (convert 100 9 (.slice A L.length c)).run Tryz.prog wr=.ok (str L) wr:=by
 rcases h.own.2 with⟨h0,h0'⟩ | ⟨g,cap,cur,hv,hb,hh,q1,q2,q3,q4⟩
 ·exact absurd (List.eq_nil_of_length_eq_zero h0') hL
 ·cases hv;refine qh2 wr g L (cur.toList.drop L.length) c ?_;have e:(L.map bv++ cur.toList.drop L.length).toArray=cur:=(by rw[Nat.mul_one]at q4;rw[←q4,List.take_append_drop]);rw[e];exact hh
theorem zt2 (c:UInt8):esc c=if 0 < (qw4 c).size then 92 ::(qw4 c).data.toList else [c]:=by
 unfold esc qw4;cases qr0 c with
 | some b=>exact(if_pos (Nat.zero_lt_succ 0)).symm
 | none=>
  simp only;by_cases h:c < 32∨126 < c
  ·rw[if_pos h,if_pos h];exact(if_pos (Nat.zero_lt_succ 4)).symm
  ·rw[if_neg h,if_neg h];rfl
theorem zn3 (c:UInt8):(qw4 c).size≤5:=by
 unfold qw4;cases qr0 c with
 | some b=>exact(by decide:(1:Nat)≤5)
 | none=>
  simp only
  split
  ·exact Nat.le_refl _
  ·exact Nat.zero_le _
theorem jb7 (w:World) (s:ByteArray) (hs:s.size≤100000):Calls Tryz.prog 125 #[.string s] w fun e w'=>e=.returned (str (quo s.data.toList))∧Mod [] w w':=by
 obtain⟨D,hD⟩:∃D,s.data.toList=D:=⟨_,rfl⟩;have hDl:D.length=s.size:=(by rw[←hD];exact q12 s);have HD:=q00 hD;have HDl:=q00 hDl;rw[hD];have HM0:=q00 ((Mod.refl [] w).alloc (.cells #[.int .u8 34] 5));have HO0:Hid (QR w (w.alloc (.cells #[.int .u8 34] 5)) (some ⟨w.heap.size,0,none⟩) 1 [34]):=q00 ⟨World.ownsRow_lit w #[.int .u8 34] 1 (Nat.le_refl _) (by unfold maxLen;omega) rfl,HM0.out⟩;clear hD hDl;go_enter Tryz.func125,Tryz.ntmps125;go_wp2_with fail;go_loopw [3,4] (fun ov iv wr=>∃(i:Nat) (A:Option Addr) (c:Nat) (L:List UInt8),i≤s.size∧iv=.int .i64 (i:Int)∧ov=.slice A L.length c∧Hid (L=34 ::(D.take i).flatMap esc)∧Hid (QR w wr A c L)) (fun _ iv _=>s.size - (intOf iv).toNat)
 case atStart=>exact⟨0,_,_,[34],by omega,rfl,rfl,q00 rfl,HO0⟩
 case round=>
  obtain⟨i,A,c,L,hi,rfl,rfl,hL,hq⟩:=hrel;have hLl:L.length≤600001:=(by rw[hL.out,List.length_cons];have h1:=j83 (D.take i);have h2:(D.take i).length≤i:=List.length_take_le _ _;omega);by_cases h2:i < s.size
  ·have hii:(i:Int) < (s.size:Int):=(by omega);have a1:IntKind.i64.wrap ((i:Int)+1)=(i:Int)+1:=IntWalk.i64_in _ (by omega);obtain⟨x,hx⟩:∃x,s[i]=x:=⟨_,rfl⟩;have hdx:D[i]? =some x:=(by rw[←HD.out,←hx];simp[h2];rfl);have HE:=q00 (fun (w':World)=>zi8 w' x);have HT:Hid ((D.take (i+1)).flatMap esc=(D.take i).flatMap esc++ esc x):=q00 (by rw[q90 hdx,List.flatMap_append];simp);have HEq:=q00 (zt2 x);have hle:=zn3 x;obtain⟨E,hE⟩:∃E,qw4 x=E:=⟨_,rfl⟩;rw[hE]at HE HEq hle;have hx':(s[i].toNat:Int)=(x.toNat:Int):=(by rw[hx]);have HX:=q00 hx;clear hdx hx hE;go_wp2_with fail;refine(HE.out _).mono ?_;rintro e2 w2 ⟨rfl,m2⟩;have HQ2:Hid (QR w w2 A c L):=q00 ⟨m2.own hq.out.own (by simp),hq.out.mod.trans m2 (by simp)⟩;clear m2 HE hx';by_cases hE0:0 < E.size
   ·have d1:(0:Int) < (E.size:Int):=(by omega);obtain⟨A1,c1,w3,hr1,hq3⟩:=HQ2.out.app _ _ _ _ _ (by omega) 92;have hr1':(Builtin.append_ #[100,100] 100 #[.slice A L.length c,.slice (some ⟨w2.heap.size,0,none⟩) 1 1]).run Tryz.prog (w2.alloc (.cells #[.int .u8 92] 5))=.ok (.slice A1 (L.length+1) c1) w3:=hr1;have hl1:(L++ [92]).length=L.length+1:=(by simp);obtain⟨A2,c2,w4,hr2,hq4⟩:=hq3.apps _ _ _ _ _ E (by rw[hl1];omega);rw[hl1]at hr2;have HL2:Hid (L++ [92]++ E.data.toList=34 ::(D.take (i+1)).flatMap esc):=q00 (by rw[HT.out,HEq.out,if_pos hE0,hL.out];simp);have hl2:(L++ [92]++ E.data.toList).length=L.length+1+E.size:=(by rw[List.length_append,hl1,q12]);have HQ4:=q00 hq4;have HLl2:=q00 hl2;have HR1:=q00 hr1';have HR2:=q00 hr2;clear hr1 hq3 hq4 hl1 hl2 hE0 hr1' hr2;go_wp2_with (first | (at_builtin;refine Lib.wpList_append_run _ rfl (.tmp 20) (.tmp 21) 100 100 rfl (.slice A L.length c) (.slice (some ⟨w2.heap.size,0,none⟩) 1 1) rfl rfl _ w3 HR1.out ?_) | (at_builtin;refine Lib.wpList_append_run _ rfl (.tmp 22) (.tmp 23) 100 9 rfl (.slice A1 (L.length+1) c1) (.string E) rfl rfl _ w4 HR2.out ?_));refine⟨?rel,?measure⟩
    case rel=>exact⟨i+1,A2,c2,L++ [92]++ E.data.toList,by omega,by go_num,by rw[HLl2.out],HL2,HQ4⟩
    case measure=>simp[intOf];omega
   ·have d1:decide ((0:Int) < (E.size:Int))=false:=decide_eq_false (by omega);have d1n:decide (0 < E.size)=false:=decide_eq_false (by omega);obtain⟨A1,c1,w3,hr1,hq3⟩:=HQ2.out.app _ _ _ _ _ (by omega) x;have HL2:Hid (L++ [x]=34 ::(D.take (i+1)).flatMap esc):=q00 (by rw[HT.out,HEq.out,if_neg hE0,hL.out];simp);have HR1:=q00 hr1;have HQ3:=q00 hq3;have hx':(s[i].toNat:Int)=(x.toNat:Int):=(by rw[HX.out]);have hl1:(L++ [x]).length=L.length+1:=(by simp);have HLl1:=q00 hl1;clear hr1 hq3 hE0 hl1;go_wp2_with (at_builtin;refine Lib.wpList_append_run _ rfl (.tmp 25) (.tmp 29) 100 100 rfl (.slice A L.length c) (.slice (some ⟨w2.heap.size,0,none⟩) 1 1) rfl rfl _ w3 HR1.out ?_);refine⟨?rel,?measure⟩
    case rel=>exact⟨i+1,A1,c1,L++ [x],by omega,by go_num,by rw[HLl1.out],HL2,HQ3⟩
    case measure=>simp[intOf];omega
  ·have hin:i=s.size:=(by omega);obtain⟨A1,c1,w3,hr1,hq3⟩:=hq.out.app _ _ _ _ _ (by omega) 34;have hr1':(Builtin.append_ #[100,100] 100 #[.slice A L.length c,.slice (some ⟨wr.heap.size,0,none⟩) 1 1]).run Tryz.prog (wr.alloc (.cells #[.int .u8 34] 5))=.ok (.slice A1 (L.length+1) c1) w3:=hr1;have hcv:=hq3.conv _ _ _ _ _ (by simp);have hl1:(L++ [34]).length=L.length+1:=(by simp);rw[hl1]at hcv;have HQ:=q00 (show L++ [34]=quo D by rw[hL.out,hin,←HDl.out,List.take_length,quo];rfl);rw[HQ.out]at hcv;have HR1:=q00 hr1';have HMf:=q00 hq3.mod;have hii:decide ((i:Int) < (s.size:Int))=false:=decide_eq_false (by omega);have hiin:decide (i < s.size)=false:=decide_eq_false (by omega);clear hr1 hr1' hq3 hl1 hin h2;go_wp2_with (at_builtin;refine Lib.wpList_append_run _ rfl (.tmp 31) (.tmp 32) 100 100 rfl (.slice A L.length c) (.slice (some ⟨wr.heap.size,0,none⟩) 1 1) rfl rfl _ w3 HR1.out ?_);go_ret;exact⟨rfl,HMf.out⟩
end Go.Proofs.YtlfjhgamlkbofaaGreatDoor
namespace Go.Proofs.YtlfjhgamlkbofaaGreatDoor
open Go.RowKit Js
theorem j98 (obj:Bool) (x:JV):∀(l:List JV) (ks:List ByteArray),q62 obj (l++ [x]) ks=q62 obj l ks++ (44 ::(q73 obj (ks.drop l.length)++ jwr x))
 | [],ks=>by simp[q62]
 | y ::l,ks=>by
  rw[List.cons_append,q62,q62,j98 obj x l ks.tail,List.length_cons]
  simp
theorem qe9 (obj:Bool) (x:JV) (l:List JV) (ks:List ByteArray):q42 obj (l++ [x]) ks=q42 obj l ks++ (if l.length=0 then []else [44])++ (q73 obj (ks.drop l.length)++ jwr x):=by
 cases l with
 | nil=>simp[q42,q62]
 | cons y l=>rw[List.cons_append,q42,q42,j98,List.length_cons];simp
end Go.Proofs.YtlfjhgamlkbofaaGreatDoor
namespace Go.Proofs.YtlfjhgamlkbofaaGreatDoor
open Go.RowKit Js Go.Sort
theorem zt:∀k:Fin 10,((⟨#[48,49,50,51,52,53,54,55,56,57]⟩:ByteArray).extract k.val (k.val+1))=⟨#[UInt8.ofNat (48+k.val)]⟩:=by decide
theorem js8 {n:Nat} (h:n < 9223372036854775808):(Lib.decDigits n).length≤20:=by have:=j55 (i:=(n:Int)) (by unfold j48;simp;omega);unfold Lib.itoa at this;rw[if_neg (by omega)]at this;simpa using this
theorem jq5 (n:Nat):∀(w:World),n < 9223372036854775808→Calls Tryz.prog 124 #[.int .i64 (n:Int)] w fun e w'=>∃P:ByteArray,e=.returned (.string P)∧P.data.toList=Lib.decDigits n∧w=w':=by
 induction n using Nat.strongRecOn with
 | _ n ih=>
  intro w hn;have d1:((n:Int)== -9223372036854775808)=false:=(by rw[beq_eq_false_iff_ne];omega);have d2:decide ((n:Int) < 0)=false:=decide_eq_false (by omega);by_cases h:n < 10
  ·have d3:(n:Int) < 10:=(by omega);have HK:Hid ((⟨#[48,49,50,51,52,53,54,55,56,57]⟩:ByteArray).extract n (n+1)=⟨#[UInt8.ofNat (48+n)]⟩):=q00 (zt ⟨n,h⟩);have a1:IntKind.i64.wrap ((n:Int)+1)=(n:Int)+1:=IntWalk.i64_in _ (by omega);have b1:(n:Int)+1≤10:=(by omega);have b2:(n:Int)≤(n:Int)+1:=(by omega);have b3:n+1≤10:=(by omega);have HD:Hid (Lib.decDigits n= [UInt8.ofNat (48+n)]):=q00 (by rw[Lib.decDigits,dif_pos h]);clear ih h;go_enter Tryz.func124,Tryz.ntmps124;go_wp2_with fail;go_ret;exact⟨⟨#[UInt8.ofNat (48+n)]⟩,congrArg (fun s=>Ending.returned (.string s)) HK.out,by rw[HD.out],rfl⟩
  ·have d3:decide ((n:Int) < 10)=false:=decide_eq_false (by omega);have d3n:decide (n < 10)=false:=decide_eq_false (by omega);have H1:=q00 (ih (n / 10) (by omega) w (by omega));have H2:=q00 (ih (n % 10) (by omega) w (by omega));have e1:((n / 10:Nat):Int)=(n:Int) / 10:=(by omega);have e2:((n % 10:Nat):Int)=(n:Int) % 10:=(by omega);rw[e1]at H1;rw[e2]at H2;have HD:Hid (Lib.decDigits n=Lib.decDigits (n / 10)++ Lib.decDigits (n % 10)):=q00 (by have h2:Lib.decDigits (n % 10)= [UInt8.ofNat (48+n % 10)]:=(by rw[Lib.decDigits,dif_pos (Nat.mod_lt _ (by omega))]);rw[h2,Lib.decDigits,dif_neg h]);have L1:=js8 (n:=n / 10) (by omega);have L2:=js8 (n:=n % 10) (by omega);clear ih h e1 e2;go_enter Tryz.func124,Tryz.ntmps124;go_wp2_with fail;refine H1.out.mono ?_;rintro e w1 ⟨P,rfl,hP,rfl⟩;go_wp2_with fail;refine H2.out.mono ?_;rintro e w1 ⟨Q,rfl,hQ,rfl⟩;have hs:¬9223372036854775807 < P.size+Q.size:=(by rw[←q12 P,←q12 Q,hP,hQ];omega);have HP:=q00 hP;have HQ:=q00 hQ;clear hP hQ;go_wp2_with fail;go_ret;exact⟨P++ Q,rfl,by simp[HP.out,HQ.out,HD.out],rfl⟩
theorem itoa_min:Lib.itoa (-9223372036854775808)= [45,57,50,50,51,51,55,50,48,51,54,56,53,52,55,55,53,56,48,56]:=by
 unfold Lib.itoa;rw[if_pos (by decide)];have key:∀u:Nat,Lib.decDigits u=if u < 10 then [UInt8.ofNat (48+u)]else Lib.decDigits (u / 10)++ [UInt8.ofNat (48+u % 10)]:=by
  intro u;rw[Lib.decDigits]
  split <;> rfl
 rw[show(-9223372036854775808:Int).natAbs=9223372036854775808 from rfl];(repeat (rw[key];simp only[Nat.reduceDiv,Nat.reduceMod,Nat.reduceLT,Nat.reduceAdd,if_true,if_false]));rfl
theorem z55 (w:World) (i:Int) (hi:j48 i=true):Calls Tryz.prog 124 #[.int .i64 i] w fun e w'=>∃P:ByteArray,e=.returned (.string P)∧P.data.toList=Lib.itoa i∧w=w':=by
 obtain⟨h1,h2⟩:=qo8 hi;by_cases hneg:i < 0
 ·by_cases hm:i= -9223372036854775808
  ·subst hm;clear hneg h1 h2 hi;go_enter Tryz.func124,Tryz.ntmps124;go_wp2_with fail;go_ret;exact⟨_,rfl,itoa_min.symm,rfl⟩
  ·obtain⟨n,hn⟩:∃n:Nat,i= -(n:Int):=⟨i.natAbs,by omega⟩;subst hn;have d1:(-(n:Int)== -9223372036854775808)=false:=(by rw[beq_eq_false_iff_ne];omega);have hnn:n < 9223372036854775808:=(by omega);have H:=q00 (jq5 n w hnn);have a1:IntKind.i64.wrap (- -(n:Int))=(n:Int):=(by rw[Int.neg_neg];exact IntWalk.i64_in _ (by omega));have a2:IntKind.i64.wrap (n:Int)=(n:Int):=IntWalk.i64_in _ (by omega);have HL:Hid (Lib.itoa (-(n:Int))=45 ::Lib.decDigits n):=q00 (by unfold Lib.itoa;rw[if_pos hneg,Int.natAbs_neg,Int.natAbs_natCast]);have L1:=js8 (n:=n) (by omega);clear hm h1 h2 hi;go_enter Tryz.func124,Tryz.ntmps124;go_wp2_with fail;refine H.out.mono ?_;rintro e w1 ⟨P,rfl,hP,rfl⟩;have hs:¬9223372036854775807 < 1+P.size:=(by rw[←q12 P,hP];omega);have HP:=q00 hP;clear hP;go_wp2_with fail;go_ret;exact⟨_,rfl,by rw[HL.out,←HP.out];simp,rfl⟩
 ·obtain⟨n,rfl⟩:=Int.eq_ofNat_of_zero_le (show 0≤i by omega);have e:Lib.itoa (n:Int)=Lib.decDigits n:=(by unfold Lib.itoa;rw[if_neg hneg];rfl);rw[e];exact jq5 n w (by omega)
theorem jf3 (obj:Bool) (l:List JV) (ks:List ByteArray) (j:Nat):∀m,(q42 obj (l.take j) ks).length≤(q42 obj (l.take (j+m)) ks).length
 | 0=>Nat.le_refl _
 | m+1=>by
  refine Nat.le_trans (jf3 obj l ks j m) ?_
  rcases Nat.lt_or_ge (j+m) l.length with h | h
  ·obtain⟨x,hx⟩:∃x,l[j+m]? =some x:=⟨_,List.getElem?_eq_getElem h⟩
   rw[←Nat.add_assoc,q90 hx,qe9]
   simp only[List.length_append];omega
  ·rw[List.take_of_length_le h,List.take_of_length_le (by omega)];exact Nat.le_refl _
theorem qg (obj:Bool) (l:List JV) (ks:List ByteArray) (j:Nat):(q42 obj (l.take j) ks).length≤(q42 obj l ks).length:=by have:=jf3 obj l ks j l.length;rwa [List.take_of_length_le (l:=l) (i:=j+l.length) (by omega)]at this
theorem jn5 {ks:List ByteArray} {j:Nat} {k:ByteArray} (h:ks[j]? =some k):q73 true (ks.drop j)=quo k.data.toList++ [58]:=by obtain⟨hj,rfl⟩:=List.getElem?_eq_some_iff.1 h;rw[List.drop_eq_getElem_cons hj,q73,if_pos rfl];rfl
def js3 (N:Nat):Prop:=∀(w:World) (x:JN) (d:Nat),x.sz≤N→JIn w x→q27 d x.v=true→qh7 x.v=true→(jwr x.v).length≤100000→
 Calls Tryz.prog 86 #[.agg x.cells] w fun e w'=>∃P:ByteArray,e=.returned (.string P)∧P.data.toList=jwr x.v∧Mod [] w w'
theorem z87 (N:Nat) (hS:js3 N):js3 (N+1):=by
 intro w x d hsz hx hmay hrng hlen;obtain⟨xk,xi,xt,xA,xc,xl,xB,xd,xs⟩:=x;rw[JIn]at hx;rw[JN.sz]at hsz;rw[JN.v]at hmay hrng hlen;obtain⟨⟨hx1,hx2,_⟩,hx3,hx4,hx5⟩:=hx;unfold q99 at hx1 hx2;rw[qh7,Bool.and_eq_true]at hrng;obtain⟨n,hn⟩:∃n,xl.length=n:=⟨_,rfl⟩;obtain⟨m,hm⟩:∃m,xs.length=m:=⟨_,rfl⟩;have HN:=q00 hn;have HMm:=q00 hm;have HK:=q00 hx3;have HR:=q00 hx4;have HI:=q00 hx5;have HS:=q00 hS;have HSz:Hid (JN.szs xl≤N):=q00 (by omega);have HRg:=q00 hrng.2;have hri:=hrng.1;simp only[JN.cells];rw[hn,hm,JN.v];rw[hn]at hx1;rw[hm]at hx2;have hk:xk=0∨xk=1∨xk=2∨xk=3∨xk=4∨xk=5∨xk=6:=by have h1:=hmay;rw[q27]at h1;simp only[Bool.and_eq_true,Bool.or_eq_true,decide_eq_true_eq]at h1;omega
 clear hx3 hx4 hx5 hn hm hS hsz hrng;rcases hk with rfl | rfl | rfl | rfl | rfl | rfl | rfl
 ·have HM0:=q00 ((Mod.refl [] w).alloc (.cells #[.int .i64 0,.int .i64 xi,.string xt,.slice xA n xc,.slice xB m xd] 43));have HB0:=q00 (Blk.new w 43 #[.int .i64 0,.int .i64 xi,.string xt,.slice xA n xc,.slice xB m xd]);have HJ:Hid (jwr (.mk 0 xi xt (JN.vs xl) xs)= [110,117,108,108]):=q00 (by rw[jwr];rfl);clear hmay hri hlen;go_enter Tryz.func86,Tryz.ntmps86;go_wp2_with fail;go_ret;exact⟨_,rfl,by rw[HJ.out],HM0.out⟩
 ·have HM0:=q00 ((Mod.refl [] w).alloc (.cells #[.int .i64 1,.int .i64 xi,.string xt,.slice xA n xc,.slice xB m xd] 43));have HB0:=q00 (Blk.new w 43 #[.int .i64 1,.int .i64 xi,.string xt,.slice xA n xc,.slice xB m xd]);have HJ:Hid (jwr (.mk 1 xi xt (JN.vs xl) xs)= [102,97,108,115,101]):=q00 (by rw[jwr];rfl);clear hmay hri hlen;go_enter Tryz.func86,Tryz.ntmps86;go_wp2_with fail;go_ret;exact⟨_,rfl,by rw[HJ.out],HM0.out⟩
 ·have HM0:=q00 ((Mod.refl [] w).alloc (.cells #[.int .i64 2,.int .i64 xi,.string xt,.slice xA n xc,.slice xB m xd] 43));have HB0:=q00 (Blk.new w 43 #[.int .i64 2,.int .i64 xi,.string xt,.slice xA n xc,.slice xB m xd]);have HJ:Hid (jwr (.mk 2 xi xt (JN.vs xl) xs)= [116,114,117,101]):=q00 (by rw[jwr];rfl);clear hmay hri hlen;go_enter Tryz.func86,Tryz.ntmps86;go_wp2_with fail;go_ret;exact⟨_,rfl,by rw[HJ.out],HM0.out⟩
 ·have HM0:=q00 ((Mod.refl [] w).alloc (.cells #[.int .i64 3,.int .i64 xi,.string xt,.slice xA n xc,.slice xB m xd] 43));have HB0:=q00 (Blk.new w 43 #[.int .i64 3,.int .i64 xi,.string xt,.slice xA n xc,.slice xB m xd]);have HJ:Hid (jwr (.mk 3 xi xt (JN.vs xl) xs)=Lib.itoa xi):=q00 (by rw[jwr];rfl);have HC:=q00 (z55 (w.alloc (.cells #[.int .i64 3,.int .i64 xi,.string xt,.slice xA n xc,.slice xB m xd] 43)) xi hri);clear hmay hri hlen;go_enter Tryz.func86,Tryz.ntmps86;go_wp2_with fail;refine HC.out.mono ?_;rintro e w2 ⟨P,rfl,hP,rfl⟩;have HP:=q00 hP;clear hP;go_wp2_with fail;go_ret;exact⟨P,rfl,by rw[HJ.out,HP.out],HM0.out⟩
 ·have HM0:=q00 ((Mod.refl [] w).alloc (.cells #[.int .i64 4,.int .i64 xi,.string xt,.slice xA n xc,.slice xB m xd] 43));have HB0:=q00 (Blk.new w 43 #[.int .i64 4,.int .i64 xi,.string xt,.slice xA n xc,.slice xB m xd]);have HJ:Hid (jwr (.mk 4 xi xt (JN.vs xl) xs)=quo xt.data.toList):=q00 (by rw[jwr];rfl);have hxt:xt.size≤100000:=by have h1:=j00 xt.data.toList;rw[q12]at h1;rw[HJ.out]at hlen;omega
  have HC:=q00 (jb7 (w.alloc (.cells #[.int .i64 4,.int .i64 xi,.string xt,.slice xA n xc,.slice xB m xd] 43)) xt hxt);clear hmay hri hlen;go_enter Tryz.func86,Tryz.ntmps86;go_wp2_with fail;refine HC.out.mono ?_;rintro e w2 ⟨rfl,m2⟩;have HM2:=q00 (HM0.out.trans m2 (by simp));clear m2;go_wp2_with fail;go_ret;exact⟨⟨(quo xt.data.toList).toArray⟩,rfl,by rw[HJ.out],HM2.out⟩
 ·have HM0:=q00 ((Mod.refl [] w).alloc (.cells #[.int .i64 5,.int .i64 xi,.string xt,.slice xA n xc,.slice xB m xd] 43));have HB0:=q00 (Blk.new w 43 #[.int .i64 5,.int .i64 xi,.string xt,.slice xA n xc,.slice xB m xd]);have HJ:Hid (jwr (.mk 5 xi xt (JN.vs xl) xs)=91 ::(q42 false (JN.vs xl) xs++ [93])):=q00 (by rw[jwr,if_neg (by decide),if_neg (by decide),if_neg (by decide),if_neg (by decide),if_neg (by decide),if_neg (by decide)]);have HLn:Hid ((q42 false (JN.vs xl) xs).length≤100000):=q00 (by rw[HJ.out]at hlen;simp only[List.length_cons,List.length_append,List.length_nil]at hlen;omega);have hpa:=q94 hmay;have HMs:Hid (q61 (d - 1) (JN.vs xl)=true):=q00 (by rw[q27]at hmay;simp only[Bool.and_eq_true]at hmay;exact hmay.2);clear hmay hri hlen hpa;go_enter Tryz.func86,Tryz.ntmps86;go_wp2_with fail;go_loopw [3,4] (fun ov iv wr=>∃(j:Nat) (O:ByteArray),j≤n∧ov=.string O∧iv=.int .i64 (j:Int)∧Hid (O.data.toList=q42 false ((JN.vs xl).take j) xs)∧Hid (Mod [] w wr)∧Hid (Blk wr w.heap.size 43 #[.int .i64 5,.int .i64 xi,.string xt,.slice xA n xc,.slice xB m xd])) (fun _ iv _=>n - (intOf iv).toNat)
  case atStart=>exact⟨0,_,by omega,rfl,rfl,q00 (by rw[List.take_zero,q42]),HM0,HB0⟩
  case round=>
   obtain⟨j,O,hjn,rfl,rfl,hO,hmi,hbi⟩:=hrel;have hos:O.size≤100000:=by have h1:=qg false (JN.vs xl) xs j;rw[←hO.out,q12]at h1;have:=HLn.out;omega
   have x0:wr.cell? ⟨w.heap.size,0,none⟩=some (.int .i64 5):=hbi.out.cell 0;have x3:wr.cell? ⟨w.heap.size,3,none⟩=some (.slice xA n xc):=hbi.out.cell 3;by_cases h2:j < n
   ·obtain⟨u,hu⟩:∃u,xl[j]? =some u:=⟨_,List.getElem?_eq_getElem (by have:=HN.out;omega)⟩;obtain⟨g,o,rfl,hg,hc⟩:=HR.out.at_ hu;have hev:(JN.vs xl)[j]? =some u.v:=(by rw[JN.vs_at,hu];rfl);have HEv:=q00 hev;have HTk:Hid (((JN.vs xl).take j).length=j):=q00 (by rw[List.length_take,JN.vs_len];have:=HN.out;omega);have HLe:Hid ((jwr u.v).length≤100000):=q00 (by have h1:=qg false (JN.vs xl) xs (j+1);rw[q90 hev,qe9]at h1;simp only[List.length_append]at h1;have:=HLn.out;omega);have HT:=q00 (fun (w':World) (mm:Mod [] w w')=>HS.out w' u (d - 1) (by have:=JN.szs_mem (List.mem_of_getElem? hu);have:=HSz.out;omega) ((HI.out.at_ hu).new mm) ((qh6 _ _).1 HMs.out _ (List.mem_of_getElem? hev)) (qs5 HRg.out hev) HLe.out);obtain⟨uA,uc,un,uB,ud,um,hcu, -, -⟩:=u.open5;generalize u.v.k=uk at hcu;generalize u.v.i=ui at hcu;generalize u.v.t=ut at hcu;rw[hcu]at hc HT;have HC:=q00 hc;have hii:(j:Int) < (n:Int):=(by omega);have a1:IntKind.i64.wrap ((j:Int)+1)=(j:Int)+1:=IntWalk.i64_in _ (by omega);clear hu hev hc hcu h2;by_cases hj0:j=0
    ·have hj1:decide ((0:Int) < (j:Int))=false:=decide_eq_false (by omega);have hj1n:decide (0 < j)=false:=decide_eq_false (by omega);have HJ0:=q00 hj0;clear hj0;have c3':wr.cell? ⟨w.heap.size,3,none⟩=some (.slice (some ⟨g,o,none⟩) n xc):=hbi.out.cell 3;have y0:wr.cell? ⟨g,o+j * 5,none⟩=some (.int .i64 uk):=(hmi.out.cell (p:=⟨g,o+j * 5,none⟩) hg (by simp)).trans (HC.out 0 _ rfl);have y1:wr.cell? ⟨g,o+j * 5+1,none⟩=some (.int .i64 ui):=(hmi.out.cell (p:=⟨g,o+j * 5+1,none⟩) hg (by simp)).trans (HC.out 1 _ rfl);have y2:wr.cell? ⟨g,o+j * 5+2,none⟩=some (.string ut):=(hmi.out.cell (p:=⟨g,o+j * 5+2,none⟩) hg (by simp)).trans (HC.out 2 _ rfl);have y3:wr.cell? ⟨g,o+j * 5+3,none⟩=some (.slice uA un uc):=(hmi.out.cell (p:=⟨g,o+j * 5+3,none⟩) hg (by simp)).trans (HC.out 3 _ rfl);have y4:wr.cell? ⟨g,o+j * 5+4,none⟩=some (.slice uB um ud):=(hmi.out.cell (p:=⟨g,o+j * 5+4,none⟩) hg (by simp)).trans (HC.out 4 _ rfl);have HTx:=q00 (HT.out _ hmi.out);go_wp2_with fail;refine HTx.out.mono ?_;rintro e2 w3 ⟨Q,rfl,hQ,m3⟩;have HM3:=q00 (hmi.out.trans m3 (by simp));have HB3:=q00 (m3.blk hbi.out (by simp));have hqs:Q.size≤100000:=(by rw[←q12,hQ];have:=HLe.out;omega);have s5:¬9223372036854775807 < O.size+Q.size:=(by omega);obtain⟨O2,hO2⟩:∃O2,O2=O++ Q:=⟨_,rfl⟩;have HO2:Hid (O2.data.toList=q42 false ((JN.vs xl).take (j+1)) xs):=q00 (by rw[hO2,q90 HEv.out,qe9,HTk.out,if_pos HJ0.out];simp[hO.out,hQ,q73]);have HOe:=q00 hO2;clear hQ m3 hO2 HTx y0 y1 y2 y3 y4;go_wp2_with fail;rw[←HOe.out];refine⟨?rel,?measure⟩
     case rel=>exact⟨j+1,O2,by omega,rfl,by go_num,HO2,HM3,HB3⟩
     case measure=>simp[intOf];omega
    ·have hj1:(0:Int) < (j:Int):=(by omega);have s0:¬9223372036854775807 < O.size+1:=(by omega);have HJ0:=q00 hj0;clear hj0;have c3':wr.cell? ⟨w.heap.size,3,none⟩=some (.slice (some ⟨g,o,none⟩) n xc):=hbi.out.cell 3;have y0:wr.cell? ⟨g,o+j * 5,none⟩=some (.int .i64 uk):=(hmi.out.cell (p:=⟨g,o+j * 5,none⟩) hg (by simp)).trans (HC.out 0 _ rfl);have y1:wr.cell? ⟨g,o+j * 5+1,none⟩=some (.int .i64 ui):=(hmi.out.cell (p:=⟨g,o+j * 5+1,none⟩) hg (by simp)).trans (HC.out 1 _ rfl);have y2:wr.cell? ⟨g,o+j * 5+2,none⟩=some (.string ut):=(hmi.out.cell (p:=⟨g,o+j * 5+2,none⟩) hg (by simp)).trans (HC.out 2 _ rfl);have y3:wr.cell? ⟨g,o+j * 5+3,none⟩=some (.slice uA un uc):=(hmi.out.cell (p:=⟨g,o+j * 5+3,none⟩) hg (by simp)).trans (HC.out 3 _ rfl);have y4:wr.cell? ⟨g,o+j * 5+4,none⟩=some (.slice uB um ud):=(hmi.out.cell (p:=⟨g,o+j * 5+4,none⟩) hg (by simp)).trans (HC.out 4 _ rfl);have HTx:=q00 (HT.out _ hmi.out);go_wp2_with fail;refine HTx.out.mono ?_;rintro e2 w3 ⟨Q,rfl,hQ,m3⟩;have HM3:=q00 (hmi.out.trans m3 (by simp));have HB3:=q00 (m3.blk hbi.out (by simp));have hqs:Q.size≤100000:=(by rw[←q12,hQ];have:=HLe.out;omega);have s5:¬9223372036854775807 < O.size+1+Q.size:=(by omega);obtain⟨O2,hO2⟩:∃O2,O2=(O++ ⟨#[44]⟩)++ Q:=⟨_,rfl⟩;have HO2:Hid (O2.data.toList=q42 false ((JN.vs xl).take (j+1)) xs):=q00 (by rw[hO2,q90 HEv.out,qe9,HTk.out,if_neg HJ0.out];simp[hO.out,hQ,q73]);have HOe:=q00 hO2;clear hQ m3 hO2 HTx y0 y1 y2 y3 y4;go_wp2_with fail;rw[←HOe.out];refine⟨?rel,?measure⟩
     case rel=>exact⟨j+1,O2,by omega,rfl,by go_num,HO2,HM3,HB3⟩
     case measure=>simp[intOf];omega
   ·have hii:decide ((j:Int) < (n:Int))=false:=decide_eq_false (by omega);have hiin:decide (j < n)=false:=decide_eq_false (by omega);have hjn2:j=n:=(by omega);have HOf:Hid (O.data.toList=q42 false (JN.vs xl) xs):=q00 (by rw[hO.out,hjn2,←HN.out,←JN.vs_len,List.take_length]);have s1:¬9223372036854775807 < 1+O.size:=(by omega);have s2:¬9223372036854775807 < 1+O.size+1:=(by omega);clear h2 hjn2;go_wp2_with fail;go_ret;exact⟨_,rfl,by rw[HJ.out,←HOf.out];simp,hmi.out⟩
 ·have HM0:=q00 ((Mod.refl [] w).alloc (.cells #[.int .i64 6,.int .i64 xi,.string xt,.slice xA n xc,.slice xB m xd] 43));have HB0:=q00 (Blk.new w 43 #[.int .i64 6,.int .i64 xi,.string xt,.slice xA n xc,.slice xB m xd]);have HJ:Hid (jwr (.mk 6 xi xt (JN.vs xl) xs)=123 ::(q42 true (JN.vs xl) xs++ [125])):=q00 (by rw[jwr,if_neg (by decide),if_neg (by decide),if_neg (by decide),if_neg (by decide),if_neg (by decide),if_pos rfl]);have HLn:Hid ((q42 true (JN.vs xl) xs).length≤100000):=q00 (by rw[HJ.out]at hlen;simp only[List.length_cons,List.length_append,List.length_nil]at hlen;omega);have hpa:=q94 hmay;have HMn:Hid (m=n):=q00 (by have h1:=jn7 hmay rfl;rw[JN.vs_len]at h1;have:=HMm.out;have:=HN.out;omega);have HMs:Hid (q61 (d - 1) (JN.vs xl)=true):=q00 (by rw[q27]at hmay;simp only[Bool.and_eq_true]at hmay;exact hmay.2);clear hmay hri hlen hpa;go_enter Tryz.func86,Tryz.ntmps86;go_wp2_with fail;go_loopw [3,4] (fun ov iv wr=>∃(j:Nat) (O:ByteArray),j≤n∧ov=.string O∧iv=.int .i64 (j:Int)∧Hid (O.data.toList=q42 true ((JN.vs xl).take j) xs)∧Hid (Mod [] w wr)∧Hid (Blk wr w.heap.size 43 #[.int .i64 6,.int .i64 xi,.string xt,.slice xA n xc,.slice xB m xd])) (fun _ iv _=>n - (intOf iv).toNat)
  case atStart=>exact⟨0,_,by omega,rfl,rfl,q00 (by rw[List.take_zero,q42]),HM0,HB0⟩
  case round=>
   obtain⟨j,O,hjn,rfl,rfl,hO,hmi,hbi⟩:=hrel;have hos:O.size≤100000:=by have h1:=qg true (JN.vs xl) xs j;rw[←hO.out,q12]at h1;have:=HLn.out;omega
   have x0:wr.cell? ⟨w.heap.size,0,none⟩=some (.int .i64 6):=hbi.out.cell 0;have x3:wr.cell? ⟨w.heap.size,3,none⟩=some (.slice xA n xc):=hbi.out.cell 3;by_cases h2:j < n
   ·obtain⟨u,hu⟩:∃u,xl[j]? =some u:=⟨_,List.getElem?_eq_getElem (by have:=HN.out;omega)⟩;obtain⟨g,o,rfl,hg,hc⟩:=HR.out.at_ hu;have hev:(JN.vs xl)[j]? =some u.v:=(by rw[JN.vs_at,hu];rfl);have HEv:=q00 hev;have HTk:Hid (((JN.vs xl).take j).length=j):=q00 (by rw[List.length_take,JN.vs_len];have:=HN.out;omega);obtain⟨key,hkey⟩:∃key,xs[j]? =some key:=⟨_,List.getElem?_eq_getElem (by have:=HMm.out;have:=HMn.out;omega)⟩;obtain⟨g2,o2,rfl,hg2,hc2⟩:=(HK.out.new hmi.out).at_ hkey;have HKd:=q00 (jn5 hkey);have HLe:Hid ((jwr u.v).length≤100000):=q00 (by have h1:=qg true (JN.vs xl) xs (j+1);rw[q90 hev,qe9]at h1;simp only[List.length_append]at h1;have:=HLn.out;omega);have HT:=q00 (fun (w':World) (mm:Mod [] w w')=>HS.out w' u (d - 1) (by have:=JN.szs_mem (List.mem_of_getElem? hu);have:=HSz.out;omega) ((HI.out.at_ hu).new mm) ((qh6 _ _).1 HMs.out _ (List.mem_of_getElem? hev)) (qs5 HRg.out hev) HLe.out);obtain⟨uA,uc,un,uB,ud,um,hcu, -, -⟩:=u.open5;generalize u.v.k=uk at hcu;generalize u.v.i=ui at hcu;generalize u.v.t=ut at hcu;rw[hcu]at hc HT;have HC:=q00 hc;have hii:(j:Int) < (n:Int):=(by omega);have a1:IntKind.i64.wrap ((j:Int)+1)=(j:Int)+1:=IntWalk.i64_in _ (by omega);clear hu hev hc hcu h2;have HLk:Hid ((quo key.data.toList).length≤100000):=q00 (by have h1:=qg true (JN.vs xl) xs (j+1);rw[q90 HEv.out,qe9,HTk.out,HKd.out]at h1;simp only[List.length_append]at h1;have:=HLn.out;omega);have hky:key.size≤100000:=by have h1:=j00 key.data.toList;rw[q12]at h1;have:=HLk.out;omega
    have HQk:=q00 (fun (w':World)=>jb7 w' key hky);have x4:wr.cell? ⟨w.heap.size,4,none⟩=some (.slice (some ⟨g2,o2,none⟩) m xd):=hbi.out.cell 4;have hjm:(j:Int) < (m:Int):=by have:=HMn.out;omega
    by_cases hj0:j=0
    ·have hj1:decide ((0:Int) < (j:Int))=false:=decide_eq_false (by omega);have hj1n:decide (0 < j)=false:=decide_eq_false (by omega);have HJ0:=q00 hj0;clear hj0;go_wp2_with fail;refine(HQk.out wr).mono ?_;rintro e2 w2 ⟨rfl,m2⟩;have HM2:=q00 (hmi.out.trans m2 (by simp));have HB2:=q00 (m2.blk hbi.out (by simp));obtain⟨KQ,hKQ⟩:∃KQ:ByteArray,KQ=⟨(quo key.data.toList).toArray⟩:=⟨_,rfl⟩;have HKQ:Hid (KQ.data.toList=quo key.data.toList):=q00 (by rw[hKQ]);have hks:KQ.size≤100000:=(by rw[←q12,HKQ.out];have:=HLk.out;omega);rw[show(str (quo key.data.toList):Value)=.string KQ by rw[hKQ];rfl];clear m2 hKQ;have s1:¬9223372036854775807 < KQ.size+1:=(by omega);have s2:¬9223372036854775807 < O.size+(KQ.size+1):=(by omega);have c3':w2.cell? ⟨w.heap.size,3,none⟩=some (.slice (some ⟨g,o,none⟩) n xc):=HB2.out.cell 3;have y0:w2.cell? ⟨g,o+j * 5,none⟩=some (.int .i64 uk):=(HM2.out.cell (p:=⟨g,o+j * 5,none⟩) hg (by simp)).trans (HC.out 0 _ rfl);have y1:w2.cell? ⟨g,o+j * 5+1,none⟩=some (.int .i64 ui):=(HM2.out.cell (p:=⟨g,o+j * 5+1,none⟩) hg (by simp)).trans (HC.out 1 _ rfl);have y2:w2.cell? ⟨g,o+j * 5+2,none⟩=some (.string ut):=(HM2.out.cell (p:=⟨g,o+j * 5+2,none⟩) hg (by simp)).trans (HC.out 2 _ rfl);have y3:w2.cell? ⟨g,o+j * 5+3,none⟩=some (.slice uA un uc):=(HM2.out.cell (p:=⟨g,o+j * 5+3,none⟩) hg (by simp)).trans (HC.out 3 _ rfl);have y4:w2.cell? ⟨g,o+j * 5+4,none⟩=some (.slice uB um ud):=(HM2.out.cell (p:=⟨g,o+j * 5+4,none⟩) hg (by simp)).trans (HC.out 4 _ rfl);have HTx:=q00 (HT.out _ HM2.out);go_wp2_with fail;refine HTx.out.mono ?_;rintro e2 w3 ⟨Q,rfl,hQ,m3⟩;have HM3:=q00 (HM2.out.trans m3 (by simp));have HB3:=q00 (m3.blk HB2.out (by simp));have hqs:Q.size≤100000:=(by rw[←q12,hQ];have:=HLe.out;omega);have s5:¬9223372036854775807 < O.size+(KQ.size+1)+Q.size:=(by omega);obtain⟨O2,hO2⟩:∃O2,O2=(O++ (KQ++ ⟨#[58]⟩))++ Q:=⟨_,rfl⟩;have HO2:Hid (O2.data.toList=q42 true ((JN.vs xl).take (j+1)) xs):=q00 (by rw[hO2,q90 HEv.out,qe9,HTk.out,if_pos HJ0.out,HKd.out];simp[hO.out,hQ,HKQ.out]);have HOe:=q00 hO2;clear hQ m3 hO2 HTx y0 y1 y2 y3 y4;go_wp2_with fail;rw[←HOe.out];refine⟨?rel,?measure⟩
     case rel=>exact⟨j+1,O2,by omega,rfl,by go_num,HO2,HM3,HB3⟩
     case measure=>simp[intOf];omega
    ·have hj1:(0:Int) < (j:Int):=(by omega);have s0:¬9223372036854775807 < O.size+1:=(by omega);have HJ0:=q00 hj0;clear hj0;go_wp2_with fail;refine(HQk.out wr).mono ?_;rintro e2 w2 ⟨rfl,m2⟩;have HM2:=q00 (hmi.out.trans m2 (by simp));have HB2:=q00 (m2.blk hbi.out (by simp));obtain⟨KQ,hKQ⟩:∃KQ:ByteArray,KQ=⟨(quo key.data.toList).toArray⟩:=⟨_,rfl⟩;have HKQ:Hid (KQ.data.toList=quo key.data.toList):=q00 (by rw[hKQ]);have hks:KQ.size≤100000:=(by rw[←q12,HKQ.out];have:=HLk.out;omega);rw[show(str (quo key.data.toList):Value)=.string KQ by rw[hKQ];rfl];clear m2 hKQ;have s1:¬9223372036854775807 < KQ.size+1:=(by omega);have s2:¬9223372036854775807 < O.size+1+(KQ.size+1):=(by omega);have c3':w2.cell? ⟨w.heap.size,3,none⟩=some (.slice (some ⟨g,o,none⟩) n xc):=HB2.out.cell 3;have y0:w2.cell? ⟨g,o+j * 5,none⟩=some (.int .i64 uk):=(HM2.out.cell (p:=⟨g,o+j * 5,none⟩) hg (by simp)).trans (HC.out 0 _ rfl);have y1:w2.cell? ⟨g,o+j * 5+1,none⟩=some (.int .i64 ui):=(HM2.out.cell (p:=⟨g,o+j * 5+1,none⟩) hg (by simp)).trans (HC.out 1 _ rfl);have y2:w2.cell? ⟨g,o+j * 5+2,none⟩=some (.string ut):=(HM2.out.cell (p:=⟨g,o+j * 5+2,none⟩) hg (by simp)).trans (HC.out 2 _ rfl);have y3:w2.cell? ⟨g,o+j * 5+3,none⟩=some (.slice uA un uc):=(HM2.out.cell (p:=⟨g,o+j * 5+3,none⟩) hg (by simp)).trans (HC.out 3 _ rfl);have y4:w2.cell? ⟨g,o+j * 5+4,none⟩=some (.slice uB um ud):=(HM2.out.cell (p:=⟨g,o+j * 5+4,none⟩) hg (by simp)).trans (HC.out 4 _ rfl);have HTx:=q00 (HT.out _ HM2.out);go_wp2_with fail;refine HTx.out.mono ?_;rintro e2 w3 ⟨Q,rfl,hQ,m3⟩;have HM3:=q00 (HM2.out.trans m3 (by simp));have HB3:=q00 (m3.blk HB2.out (by simp));have hqs:Q.size≤100000:=(by rw[←q12,hQ];have:=HLe.out;omega);have s5:¬9223372036854775807 < O.size+1+(KQ.size+1)+Q.size:=(by omega);obtain⟨O2,hO2⟩:∃O2,O2=((O++ ⟨#[44]⟩)++ (KQ++ ⟨#[58]⟩))++ Q:=⟨_,rfl⟩;have HO2:Hid (O2.data.toList=q42 true ((JN.vs xl).take (j+1)) xs):=q00 (by rw[hO2,q90 HEv.out,qe9,HTk.out,if_neg HJ0.out,HKd.out];simp[hO.out,hQ,HKQ.out]);have HOe:=q00 hO2;clear hQ m3 hO2 HTx y0 y1 y2 y3 y4;go_wp2_with fail;rw[←HOe.out];refine⟨?rel,?measure⟩
     case rel=>exact⟨j+1,O2,by omega,rfl,by go_num,HO2,HM3,HB3⟩
     case measure=>simp[intOf];omega
   ·have hii:decide ((j:Int) < (n:Int))=false:=decide_eq_false (by omega);have hiin:decide (j < n)=false:=decide_eq_false (by omega);have hjn2:j=n:=(by omega);have HOf:Hid (O.data.toList=q42 true (JN.vs xl) xs):=q00 (by rw[hO.out,hjn2,←HN.out,←JN.vs_len,List.take_length]);have s1:¬9223372036854775807 < 1+O.size:=(by omega);have s2:¬9223372036854775807 < 1+O.size+1:=(by omega);clear h2 hjn2;go_wp2_with fail;go_ret;exact⟨_,rfl,by rw[HJ.out,←HOf.out];simp,hmi.out⟩
theorem jr0:∀n,js3 n
 | 0=>fun w x d h=>by cases x;rw[JN.sz]at h;omega
 | n+1=>z87 n (jr0 n)
theorem zq3 (w:World) (x:JN) (hx:JIn w x) (hr:qh7 x.v=true) (hl:(jwr x.v).length≤100000) (hb:q27 8 x.v=true):
  Calls Tryz.prog 49 #[.agg x.cells] w fun e w'=>∃P:ByteArray,e=.returned (.tuple #[.string P,.int .i64 0])∧P.data.toList=jwr x.v∧Mod [] w w':=by
 have HMay:=q00 (fun w' (m:Mod [] w w')=>zi9 w' x (hx.new m) true hb);have HTx:=q00 (fun w' (m:Mod [] w w')=>jr0 x.sz w' x 8 (Nat.le_refl _) (hx.new m) hb hr hl);obtain⟨xA,xc,xn,xB,xd,xm,hcx, -, -⟩:=x.open5;generalize x.v.k=xk at hcx;generalize x.v.i=xi at hcx;generalize x.v.t=xt at hcx;rw[hcx]at HMay HTx ⊢;have HM0:=q00 ((Mod.refl [] w).alloc (.cells #[.int .i64 xk,.int .i64 xi,.string xt,.slice xA xn xc,.slice xB xm xd] 43));have HB0:=q00 (Blk.new w 43 #[.int .i64 xk,.int .i64 xi,.string xt,.slice xA xn xc,.slice xB xm xd]);clear hx hr hl hb hcx;go_enter Tryz.func49,Tryz.ntmps49;go_wp2_with fail;refine(HMay.out _ HM0.out).mono ?_;rintro e w2 ⟨rfl,m2⟩;have HM2:=q00 (HM0.out.trans m2 (by simp));have HB2:=q00 (m2.blk HB0.out (by simp));clear m2;have q0:w2.cell? ⟨w.heap.size,0,none⟩=some (.int .i64 xk):=HB2.out.cell 0;have q1:w2.cell? ⟨w.heap.size,1,none⟩=some (.int .i64 xi):=HB2.out.cell 1;have q2:w2.cell? ⟨w.heap.size,2,none⟩=some (.string xt):=HB2.out.cell 2;have q3:w2.cell? ⟨w.heap.size,3,none⟩=some (.slice xA xn xc):=HB2.out.cell 3;have q4:w2.cell? ⟨w.heap.size,4,none⟩=some (.slice xB xm xd):=HB2.out.cell 4;go_wp2_with fail;refine(HTx.out _ HM2.out).mono ?_;rintro e w3 ⟨P,rfl,hP,m3⟩;have HM3:=q00 (HM2.out.trans m3 (by simp));have HP:=q00 hP;clear m3 hP;go_wp2_with fail;go_ret2;exact⟨P,rfl,HP.out,HM3.out⟩
end Go.Proofs.YtlfjhgamlkbofaaGreatDoor
