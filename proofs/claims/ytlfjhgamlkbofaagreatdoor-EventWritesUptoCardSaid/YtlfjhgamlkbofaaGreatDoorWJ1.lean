/-
  Contracts of the functions that the laws of this seat reach, and plain laws, part 5 of 17; no condition.
-/
import Derived.Test.YtlfjhgamlkbofaaGreatDoorWC
import Derived.Shelf.Small.Strs
import Derived.Deep.Cut
import Derived.Shelf.Strconv.ErrVarParseInt
import Derived.Lib.LaidTab
import Derived.Lib.ItoaNum
import Derived.Deep.RegionHeld3
set_option linter.unusedVariables false
set_option linter.unusedSimpArgs false
set_option linter.unnecessarySimpa false
set_option maxRecDepth 100000
set_option maxHeartbeats 16000000
namespace Go.Proofs.YtlfjhgamlkbofaaGreatDoor
open Go.RowKit
def zx6:Go.Shelf.Ren:=⟨fun | 137=>179 | 217=>141 | 266=>177 | n=>n,fun | 3=>3 | 5=>5 | 9=>9 | n=>n,fun n=>n⟩
theorem zd3:Go.Proofs.Lays.n137 Tryz.prog zx6:= {
 mixed:=by kernel_rfl,
 f137:=Tryz.func179.trans (congrArg some (by kernel_rfl)),
 f217:=Tryz.func141.trans (congrArg some (by kernel_rfl)),
 f266:=Tryz.func177.trans (congrArg some (by kernel_rfl)),
 t3:=Tryz.underlying3,
 a3:=Tryz.isAgg3,
 z3:=Tryz.sizeOf3,
 v3:=Tryz.zeroValue3,
 t5:=Tryz.underlying5,
 a5:=Tryz.isAgg5,
 z5:=Tryz.sizeOf5,
 v5:=Tryz.zeroValue5,
 t9:=Tryz.underlying9,
 a9:=Tryz.isAgg9,
 z9:=Tryz.sizeOf9,
 v9:=Tryz.zeroValue9 }
theorem qv6 (c:UInt8):∀l:List UInt8,decide (Lib.indexByte l c < 0)= !(l.contains c)∧decide (0≤Lib.indexByte l c)=l.contains c:=by
 have key:∀l:List UInt8,(l.contains c=false→Lib.indexByte l c= -1)∧(l.contains c=true→0≤Lib.indexByte l c):=by
  intro l;induction l with
  | nil=>exact⟨fun _=>rfl,fun h=>by cases h⟩
  | cons x t ih=>
   rw[Lib.indexByte];by_cases hx:x=c
   ·subst hx;refine⟨fun h=>by simp at h,fun _=>by simp⟩
   ·have e:(x ::t).contains c=t.contains c:=(by rw[List.contains_cons];have:(c==x)=false:=(by rw[beq_eq_false_iff_ne];exact fun h=>hx h.symm);rw[this,Bool.false_or]);rw[e];have hx2:(x==c)=false:=(by rw[beq_eq_false_iff_ne];exact hx);refine⟨fun h=> ?_,fun h=> ?_⟩
    ·simp[hx2,ih.1 h]
    ·have:=ih.2 h;simp only[hx2,if_false,Bool.false_eq_true];by_cases h1:(Lib.indexByte t c== -1)=true
     ·rw[beq_iff_eq]at h1;omega
     ·rw[if_neg h1];omega
 intro l;obtain⟨k1,k2⟩:=key l;cases hc:l.contains c with
 | false=>rw[k1 hc];exact⟨rfl,rfl⟩
 | true=>have:=k2 hc;exact⟨decide_eq_false (by omega),decide_eq_true this⟩
theorem zd4 (w:World) (s:ByteArray) (c:UInt8):
  Calls Tryz.prog 179 #[.string s,.int .u8 (c.toNat:Int)] w fun e w'=>e=.returned (.int .i64 (Lib.indexByte s.data.toList c))∧w'=w:=by
 have hc:Calls Tryz.prog 179 #[.string s,.int .u8 (c.toNat:Int)] w _:=Any.strings_IndexByte zd3 s (c.toNat:Int) w;refine hc.mono ?_;rintro e w' ⟨rfl,rfl⟩;refine⟨?_,rfl⟩;have:(c.toNat:Int).toNat.toUInt8=c:=(by simp);rw[this]
end Go.Proofs.YtlfjhgamlkbofaaGreatDoor
namespace Go.Proofs.YtlfjhgamlkbofaaGreatDoor
open Go.RowKit Js Go.Sort
structure Rd (w:World) (p:Nat) (s:ByteArray) (k:Nat):Prop where
 blk:Blk w p 135 #[.string s,.int .i64 (k:Nat)]
 le:k≤s.size
 small:s.size≤1000000
def rst (s:ByteArray) (k:Nat):List UInt8:=s.data.toList.drop k
theorem q88 (s:ByteArray) {k:Nat} (h:k≤s.size):(rst s k).length=s.size - k:=by unfold rst;rw[List.length_drop,q12]
theorem qb6 {s:ByteArray} {k:Nat} {c:UInt8} {t:List UInt8} (h:rst s k=c ::t):k < s.size∧s.data.toList[k]? =some c∧rst s (k+1)=t:=by
 have h1:k < s.data.toList.length:=by
  rcases Nat.lt_or_ge k s.data.toList.length with h1 | h1
  ·exact h1
  ·unfold rst at h;rw[List.drop_eq_nil_of_le h1]at h;cases h
 unfold rst at h ⊢;rw[List.drop_eq_getElem_cons h1]at h;cases h;exact⟨by rw[←q12];exact h1,List.getElem?_eq_getElem h1,rfl⟩
theorem j58 {s:ByteArray} {k:Nat} (h:rst s k= []) (hk:k≤s.size):k=s.size:=by have:=q88 s hk;rw[h]at this;simp at this;omega
theorem qi0 (x:ByteArray) (i:Nat) (h:i < x.size) (c:UInt8) (hc:x.data.toList[i]? =some c):x[i]=c:=by have h2:i < x.data.toList.length:=(by rw[q12];exact h);rw[List.getElem?_eq_getElem h2]at hc;have:=Option.some.inj hc;rw[←this];simp[ByteArray.getElem_eq_getElem_data]
theorem Rd.mod {w w':World} {p k:Nat} {s:ByteArray} {F:List Nat} (h:Rd w p s k) (m:Mod F w w') (hF:p∉F):Rd w' p s k:=⟨m.blk h.blk hF,h.le,h.small⟩
def pan (k:Nat):Ending:=.panicked [{ v:=.iface 131 (.int .i64 (k:Nat)),recovered:=false }]
theorem zh4 (w:World) (p k:Nat) (s:ByteArray) (h:Rd w p s k):
  Calls Tryz.prog 146 #[.pointer (some ⟨p,0,none⟩)] w fun e w'=>e=.returned (.int .u8 ((((rst s k).head?.getD 0).toNat:Nat):Int))∧∃n,w'=w.drewN n:=by
 have y0:w.cell? ⟨p,0,none⟩=some (.string s):=h.blk.cell 0;have y1:w.cell? ⟨p,1,none⟩=some (.int .i64 (k:Nat)):=h.blk.cell 1;have hle:=h.le;have hs:=h.small;cases hr:rst s k with
 | nil=>have hk:=j58 hr hle;have g1:decide ((k:Int) < s.size)=false:=decide_eq_false (by omega);have g2:decide (k < s.size)=false:=decide_eq_false (by omega);clear h hk hr;go_enter Tryz.func146,Tryz.ntmps146;go_wp2_with fail;go_quiet (fail);go_wp2_with fail;go_ret;exact⟨rfl,nq,rfl⟩
 | cons c t=>obtain⟨h1,h2,h3⟩:=qb6 hr;have g1:decide ((k:Int) < s.size)=true:=decide_eq_true (by omega);have g2:decide (k < s.size)=true:=decide_eq_true h1;have hki:(k:Int) < s.size:=(by omega);have hxc:s[k]'h1=c:=qi0 s k _ c h2;clear h hr h3 h2;go_enter Tryz.func146,Tryz.ntmps146;go_wp2_with fail;go_quiet (fail);go_wp2_with fail;go_quiet (fail);go_wp2_with fail;go_ret;refine⟨?_,_,World.drewN_drewN _ _ _⟩;simp
theorem ql (w:World) (p k:Nat) (s:ByteArray) (h:Rd w p s k):
  Calls Tryz.prog 112 #[.pointer (some ⟨p,0,none⟩)] w fun e w'=>e=pan k∧w'=w:=by
 have y1:w.cell? ⟨p,1,none⟩=some (.int .i64 (k:Nat)):=h.blk.cell 1;clear h;go_enter Tryz.func112,Tryz.ntmps112;go_wp2_with fail;exact⟨rfl,rfl,rfl⟩
def RP {α:Type} (w:World) (p:Nat) (s:ByteArray) (x:PR α) (Q:α→World→Value→Prop) (e:Ending) (w':World):Prop:=Mod [p] w w'∧match x with
 | .ok v r=>∃k u,e=.returned u∧Q v w' u∧Rd w' p s k∧rst s k=r
 | .er r=>∃k,e=pan k∧k≤s.size∧rst s k=r
def inB (S:ByteArray) (c:UInt8):Bool:=S.data.toList.contains c
theorem RP.ok {α:Type} {w w':World} {p:Nat} {s:ByteArray} {x:PR α} {Q:α→World→Value→Prop} {v:α} {r:List UInt8} {k:Nat} {u:Value} (hx:x=.ok v r) (m:Mod [p] w w') (hq:Q v w' u) (hr:Rd w' p s k) (hk:rst s k=r):RP w p s x Q (.returned u) w':=by subst hx;exact⟨m,k,u,rfl,hq,hr,hk⟩
theorem RP.er {α:Type} {w w':World} {p:Nat} {s:ByteArray} {x:PR α} {Q:α→World→Value→Prop} {r:List UInt8} {k:Nat} (hx:x=.er r) (m:Mod [p] w w') (hl:k≤s.size) (hk:rst s k=r):RP w p s x Q (pan k) w':=by subst hx;exact⟨m,k,rfl,hl,hk⟩
theorem Rd.step {w:World} {p k:Nat} {s:ByteArray} (h:Rd w p s k) (hk:k < s.size):Rd (w.setCell ⟨p,1,none⟩ (.int .i64 ((k:Int)+1))) p s (k+1):=by refine⟨?_,hk,h.small⟩;have:=h.blk.set_ 1 (.int .i64 ((k:Int)+1));exact this
theorem ql3 (w:World) (p k:Nat) (s:ByteArray) (h:Rd w p s k):
  Calls Tryz.prog 146 #[.pointer (some ⟨p,0,none⟩)] w fun e w'=>e=.returned (.int .u8 ((((rst s k).head?.getD 0).toNat:Nat):Int))∧Mod [] w w'∧Rd w' p s k:=
 (zh4 w p k s h).mono fun e w' ⟨h1,n,h2⟩=>by
  subst h2;have m:=(Mod.refl [] w).drewN n;exact⟨h1,m,h.mod m (by simp)⟩
theorem qg4 (w:World) (p k:Nat) (s S:ByteArray) (h:Rd w p s k):
  Calls Tryz.prog 180 #[.pointer (some ⟨p,0,none⟩),.string S] w (RP w p s (q19 (inB S) (rst s k)) fun c _ u=>u=.int .u8 (c.toNat:Int)):=by
 have hle:=h.le;have hs:=h.small;cases hr:rst s k with
 | nil=>have hk:=j58 hr hle;have g1:decide ((s.size:Int)≤k)=true:=decide_eq_true (by omega);have g2:decide (s.size≤k)=true:=decide_eq_true (by omega);have HR:=q00 hr;have HN:=q00 (ql3 w p k s h);clear h hr hk;go_enter Tryz.func180,Tryz.ntmps180;go_wp2_with fail;refine HN.out.mono ?_;rintro e w1 ⟨rfl,m1,hr1⟩;have M1:=q00 m1;have H1:=q00 hr1;have y0:w1.cell? ⟨p,0,none⟩=some (.string s):=hr1.blk.cell 0;have y1:w1.cell? ⟨p,1,none⟩=some (.int .i64 (k:Nat)):=hr1.blk.cell 1;clear m1 hr1;go_wp2_with fail;go_quiet (fail);go_wp2_with fail;refine(ql _ p k s (H1.out.mod ((Mod.refl [] _).drewN _) (by simp))).mono ?_;rintro e w2 ⟨rfl,rfl⟩;go_wp2_with fail;rename_i heq;cases heq;exact⟨rfl,RP.er rfl ((M1.out.drewN nq).mono (by simp)) hle HR.out⟩
 | cons c t=>
  obtain⟨h1,h2,h3⟩:=qb6 hr;have g1:decide ((s.size:Int)≤k)=false:=decide_eq_false (by omega);have g2:decide (s.size≤k)=false:=decide_eq_false (by omega);have HIx:=q00 (fun w=>zd4 w S c);obtain⟨ix,hix⟩:∃ix,Lib.indexByte S.data.toList c=ix:=⟨_,rfl⟩;have hneg:=(qv6 c S.data.toList).1;rw[hix]at HIx hneg;have HR:=q00 hr;have HR3:=q00 h3;have HK:=q00 h1;have hnx:=ql3 w p k s h;rw[hr]at hnx;have HNx:=q00 hnx;clear h h2 h3 hix hnx hr h1;have a3:IntKind.i64.wrap ((k:Int)+1)=(k:Int)+1:=IntWalk.i64_in _ (by omega);cases hb:S.data.toList.contains c with
  | true=>have g3:decide (ix < 0)=false:=(by rw[hneg,hb];rfl);have HT:Hid (q19 (inB S) (c ::t)=.ok c t):=q00 (by rw[q19,inB,hb];rfl);clear hneg hb;go_enter Tryz.func180,Tryz.ntmps180;go_wp2_with fail;refine HNx.out.mono ?_;rintro e w1 ⟨rfl,m1,hr1⟩;simp only[List.head?_cons,Option.getD_some];have M1:=q00 m1;have H1:=q00 hr1;have y0:w1.cell? ⟨p,0,none⟩=some (.string s):=hr1.blk.cell 0;have y1:w1.cell? ⟨p,1,none⟩=some (.int .i64 (k:Nat)):=hr1.blk.cell 1;have u1:w1.frozen? ⟨p,1,none⟩=false:=hr1.blk.frozen 1;have lp:=hr1.blk.lt;clear m1 hr1;go_wp2_with fail;go_quiet ((go_at_call 179;exact Calls.quiet_of_same (HIx.out _)));go_wp2_with fail;go_ret;have H2:Rd (w1.drewN nq) p s k:=H1.out.mod ((Mod.refl [] w1).drewN nq) (by simp);exact RP.ok HT.out (((M1.out.drewN nq).mono (by simp)).setCell (p:=⟨p,1,none⟩) (.inl (by simp)) _) rfl (H2.step HK.out) HR3.out
  | false=>have g3:decide (ix < 0)=true:=(by rw[hneg,hb];rfl);have HT:Hid (q19 (inB S) (c ::t)=.er (c ::t)):=q00 (by rw[q19,inB,hb];rfl);clear hneg hb;go_enter Tryz.func180,Tryz.ntmps180;go_wp2_with fail;refine HNx.out.mono ?_;rintro e w1 ⟨rfl,m1,hr1⟩;simp only[List.head?_cons,Option.getD_some];have M1:=q00 m1;have H1:=q00 hr1;have y0:w1.cell? ⟨p,0,none⟩=some (.string s):=hr1.blk.cell 0;have y1:w1.cell? ⟨p,1,none⟩=some (.int .i64 (k:Nat)):=hr1.blk.cell 1;clear m1 hr1;go_wp2_with fail;go_quiet ((go_at_call 179;exact Calls.quiet_of_same (HIx.out _)));go_wp2_with fail;refine(ql _ p k s (H1.out.mod ((Mod.refl [] _).drewN _) (by simp))).mono ?_;rintro e w2 ⟨rfl,rfl⟩;go_wp2_with fail;rename_i heq;cases heq;exact⟨rfl,RP.er HT.out ((M1.out.drewN nq).mono (by simp)) hle HR.out⟩
def spS:ByteArray:=⟨#[32,9,10,13]⟩
theorem zv8 (c:UInt8):spS.data.toList.contains c=j13 c:=by simp only[spS,j13,List.contains_cons,List.contains_nil,Bool.or_false,Bool.or_assoc]
def qm0 (p:Nat) (w:World):Nat:=match w.cell? ⟨p,1,none⟩with
 | some (.int _ n)=>n.toNat
 | _=>0
theorem j23 (w:World) (p k:Nat) (s:ByteArray) (h:Rd w p s k):
  Calls Tryz.prog 145 #[.pointer (some ⟨p,0,none⟩)] w fun e w'=>e=.returned (.tuple #[])∧Mod [p] w w'∧∃k',Rd w' p s k'∧rst s k'=jsp (rst s k):=by
 have hle:=h.le;have hs:=h.small;have H:=q00 h;clear h;go_enter Tryz.func145,Tryz.ntmps145;go_wp2_with fail;go_loopw [] (fun wr=>∃j:Nat,j≤s.size∧Hid (Mod [p] w wr)∧Hid (Rd wr p s j)∧Hid (jsp (rst s j)=jsp (rst s k))) (fun wr=>s.size - qm0 p wr)
 case atStart=>exact⟨k,hle,q00 (Mod.refl _ _),H,q00 rfl⟩
 case round=>
  obtain⟨j,hj,hm,hr,hsp⟩:=hrel;have y0:wr.cell? ⟨p,0,none⟩=some (.string s):=hr.out.blk.cell 0;have y1:wr.cell? ⟨p,1,none⟩=some (.int .i64 (j:Nat)):=hr.out.blk.cell 1;have HA:Hid (qm0 p wr=j):=q00 (by unfold qm0;rw[y1];rfl);have u1:wr.frozen? ⟨p,1,none⟩=false:=hr.out.blk.frozen 1;have lp:=hr.out.blk.lt;cases hq:rst s j with
  | nil=>have hk:=j58 hq hj;have g1:decide ((j:Int) < s.size)=false:=decide_eq_false (by omega);have g2:decide (j < s.size)=false:=decide_eq_false (by omega);have HE:Hid (rst s j=jsp (rst s k)):=q00 (by rw[←hsp.out,hq];rfl);clear hq hk;go_wp2_with fail;go_quiet (fail);go_wp2_with fail;refine⟨rfl,_,results_none rfl _ _ _,?_⟩;have m:=(Mod.refl [] wr).drewN nq;exact⟨rfl,hm.out.drewN nq,j,hr.out.mod m (by simp),HE.out⟩
  | cons c t=>
   obtain⟨h1,h2,h3⟩:=qb6 hq;have g1:decide ((j:Int) < s.size)=true:=decide_eq_true (by omega);have g2:decide (j < s.size)=true:=decide_eq_true h1;have hji:(j:Int) < s.size:=(by omega);have hxc:s[j]'h1=c:=qi0 s j _ c h2;have HIx:=q00 (fun w=>zd4 w spS c);obtain⟨ix,hix⟩:∃ix,Lib.indexByte spS.data.toList c=ix:=⟨_,rfl⟩;have hpos:=(qv6 c spS.data.toList).2;rw[hix]at HIx hpos;rw[zv8]at hpos;unfold spS at HIx;have a3:IntKind.i64.wrap ((j:Int)+1)=(j:Int)+1:=IntWalk.i64_in _ (by omega);have HK:=q00 h1;cases hc:j13 c with
   | true=>
    have g3:decide (0≤ix)=true:=(by rw[hpos,hc]);have HN:Hid (jsp (rst s (j+1))=jsp (rst s k)):=q00 (by rw[←hsp.out,hq,h3];unfold jsp;rw[List.dropWhile_cons,if_pos hc]);clear hpos hc hq h2 h3 hix hsp;go_wp2_with fail;go_quiet ((go_at_call 179;exact Calls.quiet_of_same (HIx.out _)));go_wp2_with fail;have H2:Rd (wr.drewN nq) p s j:=hr.out.mod ((Mod.refl [] wr).drewN nq) (by simp);have H3:=H2.step HK.out;refine⟨?rel,?measure⟩
    case rel=>exact⟨j+1,by omega,q00 ((hm.out.drewN nq).setCell (p:=⟨p,1,none⟩) (.inl (by simp)) _),q00 H3,HN⟩
    case measure=>have e:qm0 p ((wr.drewN nq).setCell ⟨p,1,none⟩ (.int .i64 ((j:Int)+1)))=j+1:=(by unfold qm0;rw[H3.blk.cell 1];rfl);rw[HA.out,e];omega
   | false=>have g3:decide (0≤ix)=false:=(by rw[hpos,hc]);have HE:Hid (rst s j=jsp (rst s k)):=q00 (by rw[←hsp.out,hq];unfold jsp;rw[List.dropWhile_cons,if_neg (by rw[hc];decide)]);clear hpos hc hq h2 h3 hix hsp;go_wp2_with fail;go_quiet ((go_at_call 179;exact Calls.quiet_of_same (HIx.out _)));go_wp2_with fail;refine⟨rfl,_,results_none rfl _ _ _,?_⟩;have m:=(Mod.refl [] wr).drewN nq;exact⟨rfl,hm.out.drewN nq,j,hr.out.mod m (by simp),HE.out⟩
theorem zo3 (W:ByteArray) (i:Nat) (c:UInt8) (h:W.data.toList[i]? =some c):inB (W.extract i (i+1))=(· ==c):=by funext x;unfold inB;have hl:i < W.data.toList.length:=(List.getElem?_eq_some_iff.1 h).1;have e:(W.extract i (i+1)).data.toList= [c]:=(by rw[Lib.extract_data,Nat.add_sub_cancel_left,List.drop_eq_getElem_cons hl];rw[List.getElem?_eq_getElem hl]at h;rw[Option.some.inj h];rfl);rw[e,List.contains_cons,List.contains_nil,Bool.or_false]
theorem jd1 (w:World) (p k:Nat) (s W:ByteArray) (h:Rd w p s k) (hW:W.size≤1000):
  Calls Tryz.prog 147 #[.pointer (some ⟨p,0,none⟩),.string W] w (RP w p s (q86 W.data.toList (rst s k)) fun _ _ u=>u=.tuple #[]):=by
 have H:=q00 h;clear h;go_enter Tryz.func147,Tryz.ntmps147;go_wp2_with fail;go_loopw [7] (fun iv wr=>∃i j:Nat,i≤W.size∧iv=.int .i64 (i:Int)∧Hid (Mod [p] w wr)∧Hid (Rd wr p s j)∧Hid (q86 W.data.toList (rst s k)=q86 (W.data.toList.drop i) (rst s j))) (fun iv _=>W.size - (intOf iv).toNat)
 case atStart=>exact⟨0,k,by omega,rfl,q00 (Mod.refl _ _),H,q00 rfl⟩
 case round=>
  obtain⟨i,j,hi,rfl,hm,hr,hw⟩:=hrel;by_cases hlt:i < W.size
  ·have g1:decide ((i:Int) < W.size)=true:=decide_eq_true (by omega);have a1:IntKind.i64.wrap ((i:Int)+1)=(i:Int)+1:=IntWalk.i64_in _ (by omega);obtain⟨c,hc⟩:∃c,W.data.toList[i]? =some c:=⟨_,List.getElem?_eq_getElem (by rw[q12];exact hlt)⟩;have hT:=fun w' j' (h':Rd w' p s j')=>qg4 w' p j' s (W.extract i (i+1)) h';rw[zo3 W i c hc]at hT;have HT:=q00 (hT wr j hr.out);have hdrop:W.data.toList.drop i=c ::W.data.toList.drop (i+1):=by have hl:i < W.data.toList.length:=(by rw[q12];exact hlt);rw[List.drop_eq_getElem_cons hl];rw[List.getElem?_eq_getElem hl]at hc;rw[Option.some.inj hc]
   have HD:Hid (q86 W.data.toList (rst s k)=(q19 (· ==c) (rst s j)).bind fun _ r=>q86 (W.data.toList.drop (i+1)) r):=q00 (by rw[hw.out,hdrop];rfl);clear hT hc hdrop;go_wp2_with fail;refine HT.out.mono ?_;rintro e w1 ⟨m1,hp⟩;have HM1:=q00 (hm.out.trans m1 (by simp));cases hx:q19 (· ==c) (rst s j)with
   | er r=>rw[hx]at hp;obtain⟨k1,rfl,h1,h2⟩:=hp;have HE:Hid (q86 W.data.toList (rst s k)=.er r):=q00 (by rw[HD.out,hx];rfl);clear m1 hx;go_wp2_with fail;rename_i heq;cases heq;exact⟨rfl,RP.er HE.out HM1.out h1 h2⟩
   | ok c1 r=>
    rw[hx]at hp;obtain⟨k1,u,rfl,rfl,h1,h2⟩:=hp;have HN:Hid (q86 W.data.toList (rst s k)=q86 (W.data.toList.drop (i+1)) (rst s k1)):=q00 (by rw[HD.out,hx,h2];rfl);have H1:=q00 h1;clear m1 hx h1 h2;go_wp2_with fail;refine⟨?rel,?measure⟩
    case rel=>exact⟨i+1,k1,by omega,by go_num,HM1,H1,HN⟩
    case measure=>simp[intOf];omega
  ·have hi2:i=W.size:=(by omega);have g1:decide ((i:Int) < W.size)=false:=decide_eq_false (by omega);have HE:Hid (q86 W.data.toList (rst s k)=.ok () (rst s j)):=q00 (by rw[hw.out,List.drop_eq_nil_of_le (by rw[q12];omega)];rfl);clear hi2;go_wp2_with fail;refine⟨rfl,_,results_none rfl _ _ _,?_⟩;exact RP.ok HE.out hm.out rfl hr.out rfl
def zd1:ByteArray:=⟨#[48,49,50,51,52,53,54,55,56,57,97,98,99,100,101,102,65,66,67,68,69,70]⟩
theorem zo2:inB zd1=qd4:=by funext c;have key:∀n:Nat,n < 256→inB zd1 (UInt8.ofNat n)=qd4 (UInt8.ofNat n):=(by decide);have:=key c.toNat (UInt8.toNat_lt c);simpa using this
theorem j12 {c:UInt8} (h:qd4 c=true):(97≤c.toNat∧c.toNat≤102∧(qd0 c).toNat=c.toNat - 97+10)∨(65≤c.toNat∧c.toNat≤70∧(qd0 c).toNat=c.toNat - 65+10)∨(48≤c.toNat∧c.toNat≤57∧(qd0 c).toNat=c.toNat - 48):=by
 have key:∀n:Nat,n < 256→qd4 (UInt8.ofNat n)=true→(97≤n∧n≤102∧(qd0 (UInt8.ofNat n)).toNat=n - 97+10)∨(65≤n∧n≤70∧(qd0 (UInt8.ofNat n)).toNat=n - 65+10)∨(48≤n∧n≤57∧(qd0 (UInt8.ofNat n)).toNat=n - 48):=by
  set_option maxRecDepth 100000 in decide
 have:=key c.toNat (UInt8.toNat_lt c);simp only[UInt8.ofNat_toNat]at this;exact this h
theorem z26 (w:World) (p k:Nat) (s:ByteArray) (h:Rd w p s k):
  Calls Tryz.prog 193 #[.pointer (some ⟨p,0,none⟩),.string zd1] w (RP w p s (q19 qd4 (rst s k)) fun c _ u=>u=.int .u8 ((qd0 c).toNat:Int)):=by
 have hT:=qg4 w p k s zd1 h;rw[zo2]at hT;have HT:=q00 hT;clear hT h;go_enter Tryz.func193,Tryz.ntmps193;go_wp2_with fail;refine HT.out.mono ?_;rintro e w1 ⟨m1,hp⟩;have HM:=q00 m1;cases hx:q19 qd4 (rst s k)with
 | er r=>rw[hx]at hp;obtain⟨k1,rfl,h1,h2⟩:=hp;have HX:=q00 hx;clear m1 hx;go_wp2_with fail;rename_i heq;cases heq;exact⟨rfl,RP.er HX.out HM.out h1 h2⟩
 | ok c r=>
  rw[hx]at hp;obtain⟨k1,u,rfl,rfl,h1,h2⟩:=hp;obtain⟨rfl2,hh⟩:=q83 hx;have HX:=q00 hx;have HR:Hid (∀u,u=.int .u8 ((qd0 c).toNat:Int)→RP w p s (q19 qd4 (rst s k)) (fun c _ u=>u=.int .u8 ((qd0 c).toNat:Int)) (.returned u) w1):=q00 (fun u hu=>RP.ok hx HM.out hu h1 h2);have hv:=j12 hh;obtain⟨n,hn⟩:∃n,c.toNat=n:=⟨_,rfl⟩;obtain⟨d,hd⟩:∃d,(qd0 c).toNat=d:=⟨_,rfl⟩;have HD:=q00 hd;rw[hd]at hv;rw[hn]at hv ⊢;clear m1 hx h1 h2 hh rfl2 hn hd;rcases hv with⟨v1,v2,v3⟩ | ⟨v1,v2,v3⟩ | ⟨v1,v2,v3⟩
  ·have g1:decide ((97:Int)≤n)=true:=decide_eq_true (by omega);have g2:decide (97≤n)=true:=decide_eq_true v1;have a1:IntKind.u8.wrap ((n:Int) - 97)=(n:Int) - 97:=IntWalk.u8_in _ (by omega);have a2:IntKind.u8.wrap ((n:Int) - 97+10)=(n:Int) - 97+10:=IntWalk.u8_in _ (by omega);have HV1:=q00 v1;clear v1;go_wp2_with fail;go_ret;exact HR.out _ ((congrArg (Value.int IntKind.u8) (show(n:Int) - 97+10=(d:Int)by have:=HV1.out;omega)).trans (by rw[HD.out]))
  ·have g1:decide ((97:Int)≤n)=false:=decide_eq_false (by omega);have g2:decide (97≤n)=false:=decide_eq_false (by omega);have g3:decide ((65:Int)≤n)=true:=decide_eq_true (by omega);have g4:decide (65≤n)=true:=decide_eq_true v1;have a1:IntKind.u8.wrap ((n:Int) - 65)=(n:Int) - 65:=IntWalk.u8_in _ (by omega);have a2:IntKind.u8.wrap ((n:Int) - 65+10)=(n:Int) - 65+10:=IntWalk.u8_in _ (by omega);have HV1:=q00 v1;clear v1;go_wp2_with fail;go_ret;exact HR.out _ ((congrArg (Value.int IntKind.u8) (show(n:Int) - 65+10=(d:Int)by have:=HV1.out;omega)).trans (by rw[HD.out]))
  ·have g1:decide ((97:Int)≤n)=false:=decide_eq_false (by omega);have g2:decide (97≤n)=false:=decide_eq_false (by omega);have g3:decide ((65:Int)≤n)=false:=decide_eq_false (by omega);have g4:decide (65≤n)=false:=decide_eq_false (by omega);have a1:IntKind.u8.wrap ((n:Int) - 48)=(n:Int) - 48:=IntWalk.u8_in _ (by omega);have HV1:=q00 v1;clear v1;go_wp2_with fail;go_ret;exact HR.out _ ((congrArg (Value.int IntKind.u8) (show(n:Int) - 48=(d:Int)by have:=HV1.out;omega)).trans (by rw[HD.out]))
def jc3:Int→Option Value:=(upd (upd (upd (upd (upd (upd (upd (fun _=>none) 98 (some (.int .u8 8))) 116 (some (.int .u8 9))) 110 (some (.int .u8 10))) 102 (some (.int .u8 12))) 114 (some (.int .u8 13))) 34 (some (.int .u8 34))) 92 (some (.int .u8 92)))
theorem jg3 (w:World):Calls Tryz.prog 188 #[] w fun e w'=>∃g,e=.returned (.map (some g))∧w.heap.size≤g∧IMap w' g .u8 jc3∧Mod [] w w':=by have h0:IMap (w.alloc (.map #[] 0)) w.heap.size .u8 (fun _=>none):=IMap.made w .u8;have m0:=(Mod.refl [] w).alloc (.map #[] 0);obtain⟨g,hg⟩:∃g,w.heap.size=g:=⟨_,rfl⟩;rw[hg]at h0;obtain⟨w1,e1,h1,n1, -⟩:=h0.update (P:=Tryz.prog) (T:=197) Tryz.underlying197 Tryz.underlying5 98 (.int .u8 8);have m1:=m0.trans n1 (by simp;omega);obtain⟨w2,e2,h2,n2, -⟩:=h1.update (P:=Tryz.prog) (T:=197) Tryz.underlying197 Tryz.underlying5 116 (.int .u8 9);have m2:=m1.trans n2 (by simp;omega);obtain⟨w3,e3,h3,n3, -⟩:=h2.update (P:=Tryz.prog) (T:=197) Tryz.underlying197 Tryz.underlying5 110 (.int .u8 10);have m3:=m2.trans n3 (by simp;omega);obtain⟨w4,e4,h4,n4, -⟩:=h3.update (P:=Tryz.prog) (T:=197) Tryz.underlying197 Tryz.underlying5 102 (.int .u8 12);have m4:=m3.trans n4 (by simp;omega);obtain⟨w5,e5,h5,n5, -⟩:=h4.update (P:=Tryz.prog) (T:=197) Tryz.underlying197 Tryz.underlying5 114 (.int .u8 13);have m5:=m4.trans n5 (by simp;omega);obtain⟨w6,e6,h6,n6, -⟩:=h5.update (P:=Tryz.prog) (T:=197) Tryz.underlying197 Tryz.underlying5 34 (.int .u8 34);have m6:=m5.trans n6 (by simp;omega);obtain⟨w7,e7,h7,n7, -⟩:=h6.update (P:=Tryz.prog) (T:=197) Tryz.underlying197 Tryz.underlying5 92 (.int .u8 92);have m7:=m6.trans n7 (by simp;omega);have HI:=q00 h7;have HM:=q00 m7;clear h0 m0 h1 m1 h2 m2 h3 m3 h4 m4 h5 m5 h6 m6 h7 m7 n1 n2 n3 n4 n5 n6 n7;have hmk:∀(T:TypeId) (w:World),(Instr.makeMap T none).run Tryz.prog w=.ok (.map (some w.heap.size)) (w.alloc (.map #[] 0)):=fun _ _=>rfl;go_enter Tryz.func188,Tryz.ntmps188;go_wp2_with fail;go_ret;exact⟨g,rfl,by omega,HI.out,HM.out⟩
theorem zq4 (c:UInt8):jc3 (c.toNat:Int)=if c=47 then none else(qe4 c).map fun b=> .int .u8 (b.toNat:Int):=by
 by_cases h1:c=98
 ·subst h1;rfl
 by_cases h2:c=116
 ·subst h2;rfl
 by_cases h3:c=110
 ·subst h3;rfl
 by_cases h4:c=102
 ·subst h4;rfl
 by_cases h5:c=114
 ·subst h5;rfl
 by_cases h6:c=34
 ·subst h6;rfl
 by_cases h7:c=92
 ·subst h7;rfl
 by_cases h8:c=47
 ·subst h8;rfl
 have ne:∀k:UInt8,c≠k→¬(c.toNat:Int)=(k.toNat:Int):=fun k h e=>h (UInt8.toNat_inj.1 (by omega));have n1:¬(c.toNat:Int)=98:=ne 98 h1;have n2:¬(c.toNat:Int)=116:=ne 116 h2;have n3:¬(c.toNat:Int)=110:=ne 110 h3;have n4:¬(c.toNat:Int)=102:=ne 102 h4;have n5:¬(c.toNat:Int)=114:=ne 114 h5;have n6:¬(c.toNat:Int)=34:=ne 34 h6;have n7:¬(c.toNat:Int)=92:=ne 92 h7;unfold jc3 upd qe4;simp only[if_neg h1,if_neg h2,if_neg h3,if_neg h4,if_neg h5,if_neg h6,if_neg h7,if_neg h8,if_neg n1,if_neg n2,if_neg n3,if_neg n4,if_neg n5,if_neg n6,if_neg n7,Option.map_none]
def zn4:ByteArray:=⟨#[98,116,110,102,114,34,92,47,117]⟩
theorem zn5:inB zn4=fun c=>(qe4 c).isSome || c==117:=by funext c;have key:∀n:Nat,n < 256→inB zn4 (UInt8.ofNat n)=((qe4 (UInt8.ofNat n)).isSome || UInt8.ofNat n==117):=(by decide);have:=key c.toNat (UInt8.toNat_lt c);simpa using this
theorem zu {x y:UInt8} (hx:qd4 x=true) (hy:qd4 y=true):Go.bits BinOp.or IntKind.u8 ((qd0 x).toNat * 16 % 256:Int) ((qd0 y).toNat:Int)=((qd0 x <<< 4 ||| qd0 y).toNat:Int):=by have key:∀a:Nat,a < 16→∀b:Nat,b < 16→Go.bits BinOp.or IntKind.u8 ((a:Int) * 16 % 256) (b:Int)=((UInt8.ofNat a <<< 4 ||| UInt8.ofNat b).toNat:Int):=(by decide);have h1:(qd0 x).toNat < 16:=(by rcases j12 hx with h | h | h <;> omega);have h2:(qd0 y).toNat < 16:=(by rcases j12 hy with h | h | h <;> omega);have:=key _ h1 _ h2;simpa using this
theorem zl3:inB ⟨#[48]⟩=(· ==48):=by funext x;unfold inB;show List.contains [48] x=_;rw[List.contains_cons,List.contains_nil,Bool.or_false]
theorem jm4 (w:World) (p k:Nat) (s:ByteArray) (h:Rd w p s k):
  Calls Tryz.prog 181 #[.pointer (some ⟨p,0,none⟩)] w (RP w p s (qe1 (rst s k)) fun c _ u=>u=.int .u8 (c.toNat:Int)):=by
 have hT:=qg4 w p k s zn4 h;rw[zn5]at hT;unfold zn4 at hT;have HT:=q00 hT;have HZ:=q00 (fun w' k' (h':Rd w' p s k')=>by have:=qg4 w' p k' s ⟨#[48]⟩ h';rw[zl3]at this;exact this);have HDg:=q00 (fun w' k' (h':Rd w' p s k')=>z26 w' p k' s h');unfold zd1 at HDg;have HSg:=q00 jg3;clear hT h;go_enter Tryz.func181,Tryz.ntmps181;go_wp2_with fail;refine HT.out.mono ?_;rintro e w1 ⟨m1,hp⟩;have HM:=q00 m1;cases hx:q19 (fun c=>(qe4 c).isSome || c==117) (rst s k)with
 | er r=>rw[hx]at hp;obtain⟨k1,rfl,h1,h2⟩:=hp;have HE:Hid (qe1 (rst s k)=.er r):=q00 (by unfold qe1;rw[hx];rfl);clear m1 hx;go_wp2_with fail;rename_i heq;cases heq;exact⟨rfl,RP.er HE.out HM.out h1 h2⟩
 | ok c r=>
  rw[hx]at hp;obtain⟨k1,u,rfl,rfl,h1,h2⟩:=hp;have H1:=q00 h1;have HR1:=q00 h2;have HX:=q00 hx;clear m1 hx h1 h2;by_cases h47:c=47
  ·have HE:Hid (qe1 (rst s k)=.ok 47 r):=q00 (by unfold qe1;rw[HX.out,h47];rfl);subst h47;go_wp2_with fail;go_ret;exact RP.ok HE.out HM.out rfl H1.out HR1.out
  ·have g1:((c.toNat:Int)==47)=false:=by rw[beq_eq_false_iff_ne];intro e;exact h47 (UInt8.toNat_inj.1 (by show c.toNat=47;omega))
   have g2:(c.toNat==47)=false:=by rw[beq_eq_false_iff_ne];intro e;exact h47 (UInt8.toNat_inj.1 (by show c.toNat=47;omega))
   have hF:=zq4 c;rw[if_neg h47]at hF;have HF:=q00 hF;have HC:=q00 h47;clear hF h47;go_wp2_with fail;refine(HSg.out _).mono ?_;rintro e w2 ⟨g,rfl,hg,hmap,m2⟩;have hlk:=hmap.lookup_ok (P:=Tryz.prog) (T:=197) Tryz.underlying197 Tryz.underlying5 (Tryz.zeroValue5 _) (c.toNat:Int);have hsome:(jc3 (c.toNat:Int)).isSome=(qe4 c).isSome:=(by rw[HF.out];cases qe4 c <;> rfl);have hget:(jc3 (c.toNat:Int)).getD (.int .u8 0)=.int .u8 (((qe4 c).getD 0).toNat:Int):=(by rw[HF.out];cases qe4 c <;> rfl);rw[hsome,hget]at hlk;have HM2:=q00 (HM.out.trans m2 (by simp));have H2:=q00 (H1.out.mod m2 (by simp));clear hg hmap m2 hsome hget;cases hu:qe4 c with
   | some b=>rw[hu]at hlk;simp only[Option.isSome_some,Option.getD_some]at hlk;have HE:Hid (qe1 (rst s k)=.ok b r):=q00 (by unfold qe1;rw[HX.out];simp only[PR.bind];rw[hu]);clear hu;go_wp2_with fail;go_ret;exact RP.ok HE.out HM2.out rfl H2.out HR1.out
   | none=>
    rw[hu]at hlk;simp only[Option.isSome_none,Option.getD_none]at hlk;have HE:Hid (qe1 (rst s k)=(q19 (· ==48) (rst s k1)).bind fun _ r=>(q19 (· ==48) r).bind fun _ r=>(q19 qd4 r).bind fun h r=>(q19 qd4 r).bind fun l r=> .ok (qd0 h <<< 4 ||| qd0 l) r):=q00 (by unfold qe1;rw[HX.out,HR1.out];simp only[PR.bind];rw[hu]);clear hu;go_wp2_with fail;refine(HZ.out _ _ H2.out).mono ?_;rintro e w3 ⟨m3,hp⟩;have HM3:=q00 (HM2.out.trans m3 (by simp));cases hx:q19 (· ==48) (rst s k1)with
    | er r=>rw[hx]at hp;obtain⟨k2,rfl,h1,h2⟩:=hp;have HE:Hid (qe1 (rst s k)=.er r):=q00 (by rw[HE.out,hx];rfl);clear m3 hx;go_wp2_with fail;rename_i heq;cases heq;exact⟨rfl,RP.er HE.out HM3.out h1 h2⟩
    | ok c2 r2=>
     rw[hx]at hp;obtain⟨k2,u,rfl,rfl,h1,h2⟩:=hp;have H3:=q00 h1;have HE2:Hid (qe1 (rst s k)=(q19 (· ==48) (rst s k2)).bind fun _ r=>(q19 qd4 r).bind fun h r=>(q19 qd4 r).bind fun l r=> .ok (qd0 h <<< 4 ||| qd0 l) r):=q00 (by rw[HE.out,hx,h2];rfl);clear m3 hx h1 h2;go_wp2_with fail;refine(HZ.out _ _ H3.out).mono ?_;rintro e w4 ⟨m4,hp⟩;have HM4:=q00 (HM3.out.trans m4 (by simp));cases hx:q19 (· ==48) (rst s k2)with
     | er r=>rw[hx]at hp;obtain⟨k3,rfl,h1,h2⟩:=hp;have HE:Hid (qe1 (rst s k)=.er r):=q00 (by rw[HE2.out,hx];rfl);clear m4 hx;go_wp2_with fail;rename_i heq;cases heq;exact⟨rfl,RP.er HE.out HM4.out h1 h2⟩
     | ok c3 r3=>
      rw[hx]at hp;obtain⟨k3,u,rfl,rfl,h1,h2⟩:=hp;have H4:=q00 h1;have HE3:Hid (qe1 (rst s k)=(q19 qd4 (rst s k3)).bind fun h r=>(q19 qd4 r).bind fun l r=> .ok (qd0 h <<< 4 ||| qd0 l) r):=q00 (by rw[HE2.out,hx,h2];rfl);clear m4 hx h1 h2;go_wp2_with fail;refine(HDg.out _ _ H4.out).mono ?_;rintro e w5 ⟨m5,hp⟩;have HM5:=q00 (HM4.out.trans m5 (by simp));cases hx:q19 qd4 (rst s k3)with
      | er r=>rw[hx]at hp;obtain⟨k4,rfl,h1,h2⟩:=hp;have HE:Hid (qe1 (rst s k)=.er r):=q00 (by rw[HE3.out,hx];rfl);clear m5 hx;go_wp2_with fail;rename_i heq;cases heq;exact⟨rfl,RP.er HE.out HM5.out h1 h2⟩
      | ok x r4=>
       rw[hx]at hp;obtain⟨k4,u,rfl,rfl,h1,h2⟩:=hp;have H5:=q00 h1;have HY:=q00 (q83 hx).2;have HE4:Hid (qe1 (rst s k)=(q19 qd4 (rst s k4)).bind fun l r=> .ok (qd0 x <<< 4 ||| qd0 l) r):=q00 (by rw[HE3.out,hx,h2];rfl);clear m5 hx h1 h2;go_wp2_with fail;refine(HDg.out _ _ H5.out).mono ?_;rintro e w6 ⟨m6,hp⟩;have HM6:=q00 (HM5.out.trans m6 (by simp));cases hx:q19 qd4 (rst s k4)with
       | er r=>rw[hx]at hp;obtain⟨k5,rfl,h1,h2⟩:=hp;have HE:Hid (qe1 (rst s k)=.er r):=q00 (by rw[HE4.out,hx];rfl);clear m6 hx;go_wp2_with fail;rename_i heq;cases heq;exact⟨rfl,RP.er HE.out HM6.out h1 h2⟩
       | ok y r5=>rw[hx]at hp;obtain⟨k5,u,rfl,rfl,h1,h2⟩:=hp;have HE:Hid (qe1 (rst s k)=.ok (qd0 x <<< 4 ||| qd0 y) r5):=q00 (by rw[HE4.out,hx];rfl);have H6:=q00 h1;have HR6:=q00 h2;have HB:=q00 (zu HY.out (q83 hx).2);clear m6 hx h1 h2;go_wp2_with fail;go_ret;exact RP.ok HE.out HM6.out (congrArg (Value.int IntKind.u8) (HB.out)) H6.out HR6.out
theorem BStep.modF {F:List Nat} {B b:Nat} {W w w':World} (h:BStep B b w w') (hm:Mod F W w) (hB:W.heap.size≤B):Mod F W w':=
 ⟨h.below.os.trans hm.os,h.below.tape.trans hm.tape,h.below.output.trans hm.output,Nat.le_trans hm.size h.below.size,fun k hk hn=>
  (h.below.block k (by omega)).trans (hm.block k hk hn)⟩
theorem Rd.bstep {B b p k:Nat} {s:ByteArray} {w w':World} (h:Rd w p s k) (hb:BStep B b w w') (hp:p < B):Rd w' p s k:=
 ⟨(hb.below.block p hp).trans h.blk,h.le,h.small⟩
theorem BldO.rd {B b p k:Nat} {s:ByteArray} {w w':World} {l:List UInt8} (h:BldO w B b l) (hr:Rd w p s k) (m:Mod [p] w w') (hp:p≠b):BldO w' B b l:=
 h.mod m (fun g hg=>by
  rw[List.mem_singleton]at hg
  subst hg
  refine⟨hp,fun cs fz e=> ?_⟩
  have h1:w.heap[g]? =_:=hr.blk
  rw[h1]at e
  injection e with e
  injection e with _ e2 _
  revert e2;decide)
theorem zf6 {s:ByteArray} {j:Nat} (h:rst s j= []):qa0 (rst s j)=.er (rst s j):=by rw[h];rfl
theorem ze8 {c:UInt8} {t:List UInt8} (h:pri c=false):qa0 (c ::t)=.er (c ::t):=by rw[ql2];simp only[q19,h,Bool.false_eq_true,if_false,PR.bind]
theorem ze9 (t:List UInt8):qa0 (34 ::t)=.ok [] t:=by rw[ql2];rfl
theorem zf5 (t:List UInt8):qa0 (92 ::t)=(qe1 t).bind fun b r=>(qa0 r).bind fun l r=> .ok (b ::l) r:=by
 conv=>lhs;rw[ql2]
 rfl
theorem zf7 {c:UInt8} {t:List UInt8} (h:pri c=true) (h1:c≠34) (h2:c≠92):qa0 (c ::t)=(qa0 t).bind fun l r=> .ok (c ::l) r:=by
 conv=>lhs;rw[ql2]
 simp only[q19,h,if_true,PR.bind,if_neg h1,if_neg h2]
theorem jl8 {x:PR (List UInt8)} {acc:List UInt8} {c:UInt8} :((x.bind fun l r=> .ok (c ::l) r).bind fun l r=>PR.ok (acc++ l) r)=x.bind fun l r=> .ok ((acc++ [c])++ l) r:=by
 cases x with
 | er r=>rfl
 | ok l r=>simp[PR.bind]
theorem zp5:inB ⟨#[34]⟩=(· ==34):=by funext x;unfold inB;show List.contains [34] x=_;rw[List.contains_cons,List.contains_nil,Bool.or_false]
theorem jr3 (w:World) (p k:Nat) (s:ByteArray) (h:Rd w p s k):
  Calls Tryz.prog 148 #[.pointer (some ⟨p,0,none⟩)] w (RP w p s (q92 (rst s k)) fun l _ u=>u=str l):=by
 have hpw:=h.blk.lt;obtain⟨B,hB⟩:∃B,w.heap.size=B:=⟨_,rfl⟩;have HB:=q00 hB;have hB0:BldO (w.alloc (.cells #[.pointer none,.slice none 0 0] 102)) w.heap.size w.heap.size []:=BldO.new w _ (Nat.le_refl _);have hr0:Rd (w.alloc (.cells #[.pointer none,.slice none 0 0] 102)) p s k:=h.mod ((Mod.refl [] w).alloc _) (by simp);have hT:=qg4 _ p k s ⟨#[34]⟩ hr0;rw[zp5]at hT;have HT:=q00 hT;have HM0:=q00 ((Mod.refl [p] w).alloc (.cells #[.pointer none,.slice none 0 0] 102));have HBl:=q00 hB0;have HR0:=q00 hr0;have HPB:Hid (p < B):=q00 (by omega);have HPn:Hid (p≠B):=q00 (by omega);have HNx:=q00 (fun w' k' (h':Rd w' p s k')=>ql3 w' p k' s h');have HFl:=q00 (fun w' k' (h':Rd w' p s k')=>ql w' p k' s h');have HEs:=q00 (fun w' k' (h':Rd w' p s k')=>jm4 w' p k' s h');rw[hB]at HBl;clear h hpw hB0 hr0 hT;go_enter Tryz.func148,Tryz.ntmps148;go_wp2_with fail;refine HT.out.mono ?_;rintro e w1 ⟨m1,hp⟩;have HM1:=q00 (HM0.out.trans m1 (by simp));have HB1:=q00 (HBl.out.rd HR0.out m1 HPn.out);cases hx:q19 (· ==34) (rst s k)with
 | er r=>rw[hx]at hp;obtain⟨k1,rfl,h1,h2⟩:=hp;have HE:Hid (q92 (rst s k)=.er r):=q00 (by unfold q92;rw[hx];rfl);clear m1 hx;go_wp2_with fail;rename_i heq;cases heq;exact⟨rfl,RP.er HE.out HM1.out h1 h2⟩
 | ok c r=>
  rw[hx]at hp;obtain⟨k1,u,rfl,rfl,h1,h2⟩:=hp;have HE0:Hid (q92 (rst s k)=qa0 (rst s k1)):=q00 (by unfold q92;rw[hx,h2];rfl);have H1:=q00 h1;(try rw[hB]);clear m1 hx h1 h2 hB;go_wp2_with fail;go_loopw [] (fun wr=>∃(j:Nat) (acc:List UInt8),j≤s.size∧acc.length≤j∧Hid (Mod [p] w wr)∧Hid (Rd wr p s j)∧Hid (BldO wr B B acc)∧Hid (q92 (rst s k)=(qa0 (rst s j)).bind fun l r=> .ok (acc++ l) r)) (fun wr=>s.size - qm0 p wr)
  case atStart=>exact⟨k1,[],H1.out.le,by simp,HM1,H1,HB1,q00 (by rw[HE0.out];cases qa0 (rst s k1) <;> rfl)⟩
  case round=>
   obtain⟨j,acc,hj,hacc,hm,hr,hb,hq⟩:=hrel;have hs:=hr.out.small;have y1':wr.cell? ⟨p,1,none⟩=some (.int .i64 (j:Nat)):=hr.out.blk.cell 1;have HA:Hid (qm0 p wr=j):=q00 (by unfold qm0;rw[y1'];rfl);clear y1';have hBw:B≤wr.heap.size:=by have:=hb.out.lt;omega
   have HBw:=q00 hBw;clear hBw;have HNj:=q00 (HNx.out wr j hr.out);cases hq2:rst s j with
   | nil=>have HE:Hid (q92 (rst s k)=.er (rst s j)):=q00 (by rw[hq.out,zf6 hq2];rfl);rw[hq2]at HNj;clear hq2;go_wp2_with fail;refine HNj.out.mono ?_;rintro e w2 ⟨rfl,m2,hr2⟩;simp only[List.head?_nil,Option.getD_none];have e0:((0:UInt8).toNat:Int)=0:=rfl;rw[e0];have HM2:=q00 (hm.out.trans m2 (by simp));have HR2:=q00 hr2;clear m2 hr2;go_wp2_with fail;refine(HFl.out _ _ HR2.out).mono ?_;rintro e w3 ⟨rfl,rfl⟩;go_wp2_with fail;rename_i heq;cases heq;exact⟨rfl,RP.er HE.out HM2.out hj rfl⟩
   | cons c t=>
    obtain⟨h1,h2,h3⟩:=qb6 hq2;have HK:=q00 h1;have HT3:=q00 h3;have HQ2:=q00 hq2;rw[hq2]at HNj;have hqq:=hq.out;rw[hq2]at hqq;have a1:IntKind.i64.wrap ((j:Int)+1)=(j:Int)+1:=IntWalk.i64_in _ (by omega);clear h1 h2 h3 hq2;cases hpc:pri c with
    | false=>
     have HE:Hid (q92 (rst s k)=.er (rst s j)):=q00 (by rw[hqq,ze8 hpc,HQ2.out];rfl);have hor:c.toNat < 32∨126 < c.toNat:=by
      unfold pri at hpc;simp only[Bool.and_eq_false_iff,decide_eq_false_iff_not,UInt8.le_iff_toNat_le]at hpc;rcases hpc with h | h
      ·left;exact Nat.lt_of_not_le h
      ·right;exact Nat.lt_of_not_le h
     have HOr:=q00 hor;obtain⟨n,hn⟩:∃n,c.toNat=n:=⟨_,rfl⟩;rw[hn]at hor;clear hpc hqq;have g1:decide ((n:Int) < 32)=decide (n < 32):=(by rw[decide_eq_decide];omega);rcases Nat.lt_or_ge n 32 with h32 | h32
     ·have g2:decide ((n:Int) < 32)=true:=decide_eq_true (by omega);have g3:decide (n < 32)=true:=decide_eq_true h32;clear g1 hor;go_wp2_with fail;refine HNj.out.mono ?_;rintro e w2 ⟨rfl,m2,hr2⟩;simp only[List.head?_cons,Option.getD_some,hn];have HM2:=q00 (hm.out.trans m2 (by simp));have HR2:=q00 hr2;clear m2 hr2 h32;go_wp2_with fail;refine(HFl.out _ _ HR2.out).mono ?_;rintro e w3 ⟨rfl,rfl⟩;go_wp2_with fail;rename_i heq;cases heq;exact⟨rfl,RP.er HE.out HM2.out hj rfl⟩
     ·have g2:decide ((n:Int) < 32)=false:=decide_eq_false (by omega);have g3:decide (n < 32)=false:=decide_eq_false (by omega);have g4:decide ((126:Int) < n)=true:=decide_eq_true (by omega);have g5:decide (126 < n)=true:=decide_eq_true (by omega);clear g1 hor;go_wp2_with fail;refine HNj.out.mono ?_;rintro e w2 ⟨rfl,m2,hr2⟩;simp only[List.head?_cons,Option.getD_some,hn];have HM2:=q00 (hm.out.trans m2 (by simp));have HR2:=q00 hr2;clear m2 hr2 h32;go_wp2_with fail;refine(HFl.out _ _ HR2.out).mono ?_;rintro e w3 ⟨rfl,rfl⟩;go_wp2_with fail;rename_i heq;cases heq;exact⟨rfl,RP.er HE.out HM2.out hj rfl⟩
    | true=>
     have hor:32≤c.toNat∧c.toNat≤126:=by have h:=hpc;unfold pri at h;simp only[Bool.and_eq_true,decide_eq_true_eq,UInt8.le_iff_toNat_le]at h;exact h
     obtain⟨n,hn⟩:∃n,c.toNat=n:=⟨_,rfl⟩;have HN:=q00 hn;rw[hn]at hor;have g2:decide ((n:Int) < 32)=false:=decide_eq_false (by omega);have g3:decide (n < 32)=false:=decide_eq_false (by omega);have g4:decide ((126:Int) < n)=false:=decide_eq_false (by omega);have g5:decide (126 < n)=false:=decide_eq_false (by omega);have HPc:=q00 hpc;have HQq:=q00 hqq;clear hpc hqq hor;by_cases c34:c=34
     ·have n34:n=34:=(by rw[←hn,c34];rfl);have HE:Hid (q92 (rst s k)=.ok acc t):=q00 (by rw[HQq.out,c34,ze9];simp[PR.bind]);have g6:((n:Int)==34)=true:=(by rw[n34];rfl);have g7:(n==34)=true:=(by rw[n34];rfl);clear n34 c34;go_wp2_with fail;refine HNj.out.mono ?_;rintro e w2 ⟨rfl,m2,hr2⟩;simp only[List.head?_cons,Option.getD_some,hn];have HM2:=q00 (hm.out.trans m2 (by simp));have H1:=q00 hr2;have HB2:=q00 (hb.out.mod m2 (by simp));have HS2:=q00 m2.size;clear m2 hr2;have y0:w2.cell? ⟨p,0,none⟩=some (.string s):=H1.out.blk.cell 0;have y1:w2.cell? ⟨p,1,none⟩=some (.int .i64 (j:Nat)):=H1.out.blk.cell 1;have u1:w2.frozen? ⟨p,1,none⟩=false:=H1.out.blk.frozen 1;have lp:=H1.out.blk.lt;go_wp2_with fail;have H3:=q00 (H1.out.step HK.out);have m3:Mod [p] w2 (w2.setCell ⟨p,1,none⟩ (.int .i64 ((j:Int)+1))):=(Mod.refl [p] w2).setCell (.inl (by simp)) _;have HM3:=q00 (HM2.out.trans m3 (by simp));have HB3:=q00 (HB2.out.rd H1.out m3 HPn.out);have HS3:Hid (B≤(w2.setCell ⟨p,1,none⟩ (.int .i64 ((j:Int)+1))).heap.size):=q00 (Nat.le_trans (Nat.le_trans HBw.out HS2.out) m3.size);clear m3;refine(qb1 _ B B acc HB3.out HS3.out).mono ?_;rintro e w4 ⟨rfl,hst⟩;have HM4:=q00 (hst.modF HM3.out (by rw[HB.out];exact Nat.le_refl _));have HR4:=q00 (H3.out.bstep hst HPB.out);clear hst;unfold str;go_wp2_with fail;go_ret;exact RP.ok HE.out HM4.out rfl HR4.out HT3.out
     ·have n34:n≠34:=fun e=>c34 (UInt8.toNat_inj.1 (by rw[hn,e];rfl));have g6:((n:Int)==34)=false:=(by rw[beq_eq_false_iff_ne];omega);have g7:(n==34)=false:=(by rw[beq_eq_false_iff_ne];exact n34);by_cases c92:c=92
      ·have n92:n=92:=(by rw[←hn,c92];rfl);have g8:((n:Int)==92)=true:=(by rw[n92];rfl);have g9:(n==92)=true:=(by rw[n92];rfl);have HE:Hid (q92 (rst s k)=((qe1 (rst s (j+1))).bind fun b r=>(qa0 r).bind fun l r=> .ok (b ::l) r).bind fun l r=> .ok (acc++ l) r):=q00 (by rw[HQq.out,c92,zf5,HT3.out]);clear n34 n92 c34 c92;go_wp2_with fail;refine HNj.out.mono ?_;rintro e w2 ⟨rfl,m2,hr2⟩;simp only[List.head?_cons,Option.getD_some,hn];have HM2:=q00 (hm.out.trans m2 (by simp));have H1:=q00 hr2;have HB2:=q00 (hb.out.mod m2 (by simp));have HS2:=q00 m2.size;clear m2 hr2;have y0:w2.cell? ⟨p,0,none⟩=some (.string s):=H1.out.blk.cell 0;have y1:w2.cell? ⟨p,1,none⟩=some (.int .i64 (j:Nat)):=H1.out.blk.cell 1;have u1:w2.frozen? ⟨p,1,none⟩=false:=H1.out.blk.frozen 1;have lp:=H1.out.blk.lt;go_wp2_with fail;have H3:=q00 (H1.out.step HK.out);have m3:Mod [p] w2 (w2.setCell ⟨p,1,none⟩ (.int .i64 ((j:Int)+1))):=(Mod.refl [p] w2).setCell (.inl (by simp)) _;have HM3:=q00 (HM2.out.trans m3 (by simp));have HB3:=q00 (HB2.out.rd H1.out m3 HPn.out);have HS3:Hid (B≤(w2.setCell ⟨p,1,none⟩ (.int .i64 ((j:Int)+1))).heap.size):=q00 (Nat.le_trans (Nat.le_trans HBw.out HS2.out) m3.size);clear m3 y0 y1 u1 lp;refine(HEs.out _ _ H3.out).mono ?_;rintro e w4 ⟨m4,hp⟩;have HM4:=q00 (HM3.out.trans m4 (by simp));have HB4:=q00 (HB3.out.rd H3.out m4 HPn.out);have HS4:=q00 (Nat.le_trans HS3.out m4.size);cases hx:qe1 (rst s (j+1))with
       | er r=>rw[hx]at hp;obtain⟨k2,rfl,h1,h2⟩:=hp;have HE2:Hid (q92 (rst s k)=.er r):=q00 (by rw[HE.out,hx];rfl);clear m4 hx;go_wp2_with fail;rename_i heq;cases heq;exact⟨rfl,RP.er HE2.out HM4.out h1 h2⟩
       | ok c2 r2=>
        rw[hx]at hp;obtain⟨k2,u,rfl,rfl,h1,h2⟩:=hp;have HE2:Hid (q92 (rst s k)=(qa0 (rst s k2)).bind fun l r=> .ok ((acc++ [c2])++ l) r):=q00 (by rw[HE.out,hx,h2];exact jl8);have hle:=(Good.esc.at_ (rst s (j+1))).le hx;have hk2:j+1≤k2:=(by rw[←h2,q88 s h1.le,q88 s H3.out.le]at hle;have:=h1.le;have:=H3.out.le;omega);have H4:=q00 h1;have HK2:=q00 hk2;have HA2:Hid (acc.length+1≤140737488355328):=q00 (by omega);clear m4 hx h1 h2 hle hk2;go_wp2_with fail;refine(j07 _ B B acc c2 HB4.out HA2.out HS4.out).mono ?_;rintro e w5 ⟨rfl,hb5,hst⟩;have HM5:=q00 (hst.modF HM4.out (by rw[HB.out];exact Nat.le_refl _));have HR5:=q00 (H4.out.bstep hst HPB.out);have HB5:=q00 hb5;clear hst hb5;go_wp2_with fail;have hk2:=HK2.out;have hle5:=HR5.out.le;refine⟨?rel,?measure⟩
        case rel=>exact⟨k2,acc++ [c2],hle5,by simp;omega,HM5,HR5,HB5,HE2⟩
        case measure=>have e:qm0 p w5=k2:=(by unfold qm0;rw[HR5.out.blk.cell 1];rfl);rw[HA.out,e];omega
      ·have n92:n≠92:=fun e=>c92 (UInt8.toNat_inj.1 (by rw[hn,e];rfl));have g8:((n:Int)==92)=false:=(by rw[beq_eq_false_iff_ne];omega);have g9:(n==92)=false:=(by rw[beq_eq_false_iff_ne];exact n92);have HE2:Hid (q92 (rst s k)=(qa0 (rst s (j+1))).bind fun l r=> .ok ((acc++ [c])++ l) r):=q00 (by rw[HQq.out,zf7 HPc.out c34 c92,HT3.out];exact jl8);clear n34 n92 c34 c92;go_wp2_with fail;refine HNj.out.mono ?_;rintro e w2 ⟨rfl,m2,hr2⟩;simp only[List.head?_cons,Option.getD_some,hn];have HM2:=q00 (hm.out.trans m2 (by simp));have H1:=q00 hr2;have HB2:=q00 (hb.out.mod m2 (by simp));have HS2:=q00 m2.size;clear m2 hr2;have y0:w2.cell? ⟨p,0,none⟩=some (.string s):=H1.out.blk.cell 0;have y1:w2.cell? ⟨p,1,none⟩=some (.int .i64 (j:Nat)):=H1.out.blk.cell 1;have u1:w2.frozen? ⟨p,1,none⟩=false:=H1.out.blk.frozen 1;have lp:=H1.out.blk.lt;go_wp2_with fail;have H3:=q00 (H1.out.step HK.out);have m3:Mod [p] w2 (w2.setCell ⟨p,1,none⟩ (.int .i64 ((j:Int)+1))):=(Mod.refl [p] w2).setCell (.inl (by simp)) _;have HM3:=q00 (HM2.out.trans m3 (by simp));have HB3:=q00 (HB2.out.rd H1.out m3 HPn.out);have HS3:Hid (B≤(w2.setCell ⟨p,1,none⟩ (.int .i64 ((j:Int)+1))).heap.size):=q00 (Nat.le_trans (Nat.le_trans HBw.out HS2.out) m3.size);have hA2:acc.length+1≤140737488355328:=(by omega);have HBb:=q00 (j07 _ B B acc c HB3.out hA2 HS3.out);rw[HN.out]at HBb;clear m3 y0 y1 u1 lp hA2;refine HBb.out.mono ?_;rintro e w5 ⟨rfl,hb5,hst⟩;have HM5:=q00 (hst.modF HM3.out (by rw[HB.out];exact Nat.le_refl _));have HR5:=q00 (H3.out.bstep hst HPB.out);have HB5:=q00 hb5;clear hst hb5;go_wp2_with fail;have hle5:=HR5.out.le;refine⟨?rel,?measure⟩
       case rel=>exact⟨j+1,acc++ [c],hle5,by simp;omega,HM5,HR5,HB5,HE2⟩
       case measure=>have e:qm0 p w5=j+1:=(by unfold qm0;rw[HR5.out.blk.cell 1];rfl);rw[HA.out,e];omega
end Go.Proofs.YtlfjhgamlkbofaaGreatDoor
namespace Go.Proofs.YtlfjhgamlkbofaaGreatDoor
open Go.RowKit Js
def zy6:Go.Shelf.Ren:=⟨fun | 129=>215 | 171=>224 | 174=>182 | 205=>223 | 243=>228 | 245=>195 | 246=>187 | 247=>194 | 279=>207 | 280=>208 | 281=>209 | 282=>210 | 283=>200 | 284=>201 | 285=>202 | 286=>203 | 287=>206 | 316=>222 | 317=>214 | 318=>216 | 319=>217 | 320=>218 | 321=>220 | 322=>221 | 337=>226 | 338=>227 | n=>n,fun | 0=>0 | 2=>2 | 3=>3 | 4=>4 | 5=>5 | 9=>9 | 15=>15 | 16=>16 | 17=>17 | 18=>18 | 19=>19 | 20=>20 | 21=>21 | 37=>100 | 46=>153 | 51=>189 | 53=>33 | 75=>104 | 80=>107 | 85=>193 | 127=>145 | 143=>239 | 145=>241 | 167=>215 | 168=>218 | 171=>210 | 173=>212 | 175=>216 | 210=>235 | 212=>225 | 213=>226 | 232=>242 | 233=>243 | n=>n,fun | 15=>4 | 16=>5 | 17=>1 | 18=>6 | 19=>7 | n=>n⟩
theorem zi:Go.Proofs.LaysC.n174 Tryz.prog zy6:= {
 mixed:=by kernel_rfl,
 f129:=Tryz.func215.trans (congrArg some (by kernel_rfl)),
 f171:=Tryz.func224.trans (congrArg some (by kernel_rfl)),
 f174:=Tryz.func182.trans (congrArg some (by kernel_rfl)),
 f205:=Tryz.func223.trans (congrArg some (by kernel_rfl)),
 f243:=Tryz.func228.trans (congrArg some (by kernel_rfl)),
 f245:=Tryz.func195.trans (congrArg some (by kernel_rfl)),
 f246:=Tryz.func187.trans (congrArg some (by kernel_rfl)),
 f247:=Tryz.func194.trans (congrArg some (by kernel_rfl)),
 f279:=Tryz.func207.trans (congrArg some (by kernel_rfl)),
 f280:=Tryz.func208.trans (congrArg some (by kernel_rfl)),
 f281:=Tryz.func209.trans (congrArg some (by kernel_rfl)),
 f282:=Tryz.func210.trans (congrArg some (by kernel_rfl)),
 f283:=Tryz.func200.trans (congrArg some (by kernel_rfl)),
 f284:=Tryz.func201.trans (congrArg some (by kernel_rfl)),
 f285:=Tryz.func202.trans (congrArg some (by kernel_rfl)),
 f286:=Tryz.func203.trans (congrArg some (by kernel_rfl)),
 f287:=Tryz.func206.trans (congrArg some (by kernel_rfl)),
 f316:=Tryz.func222.trans (congrArg some (by kernel_rfl)),
 f317:=Tryz.func214.trans (congrArg some (by kernel_rfl)),
 f318:=Tryz.func216.trans (congrArg some (by kernel_rfl)),
 f319:=Tryz.func217.trans (congrArg some (by kernel_rfl)),
 f320:=Tryz.func218.trans (congrArg some (by kernel_rfl)),
 f321:=Tryz.func220.trans (congrArg some (by kernel_rfl)),
 f322:=Tryz.func221.trans (congrArg some (by kernel_rfl)),
 f337:=Tryz.func226.trans (congrArg some (by kernel_rfl)),
 f338:=Tryz.func227.trans (congrArg some (by kernel_rfl)),
 t0:=Tryz.underlying0,
 a0:=Tryz.isAgg0,
 z0:=Tryz.sizeOf0,
 v0:=Tryz.zeroValue0,
 t2:=Tryz.underlying2,
 a2:=Tryz.isAgg2,
 z2:=Tryz.sizeOf2,
 v2:=Tryz.zeroValue2,
 t3:=Tryz.underlying3,
 a3:=Tryz.isAgg3,
 z3:=Tryz.sizeOf3,
 v3:=Tryz.zeroValue3,
 t4:=Tryz.underlying4,
 a4:=Tryz.isAgg4,
 z4:=Tryz.sizeOf4,
 v4:=Tryz.zeroValue4,
 t5:=Tryz.underlying5,
 a5:=Tryz.isAgg5,
 z5:=Tryz.sizeOf5,
 v5:=Tryz.zeroValue5,
 t9:=Tryz.underlying9,
 a9:=Tryz.isAgg9,
 z9:=Tryz.sizeOf9,
 v9:=Tryz.zeroValue9,
 t20:=Tryz.underlying20,
 a20:=Tryz.isAgg20,
 z20:=Tryz.sizeOf20,
 v20:=Tryz.zeroValue20,
 t21:=Tryz.underlying21,
 a21:=Tryz.isAgg21,
 z21:=Tryz.sizeOf21,
 v21:=Tryz.zeroValue21,
 t37:=Tryz.underlying100,
 a37:=Tryz.isAgg100,
 z37:=Tryz.sizeOf100,
 v37:=Tryz.zeroValue100,
 t46:=Tryz.underlying153,
 a46:=Tryz.isAgg153,
 z46:=Tryz.sizeOf153,
 v46:=Tryz.zeroValue153,
 t51:=Tryz.underlying189,
 a51:=Tryz.isAgg189,
 z51:=Tryz.sizeOf189,
 v51:=Tryz.zeroValue189,
 t53:=Tryz.underlying33,
 a53:=Tryz.isAgg33,
 z53:=Tryz.sizeOf33,
 v53:=Tryz.zeroValue33,
 t75:=Tryz.underlying104,
 a75:=Tryz.isAgg104,
 z75:=Tryz.sizeOf104,
 v75:=Tryz.zeroValue104,
 t85:=Tryz.underlying193,
 a85:=Tryz.isAgg193,
 z85:=Tryz.sizeOf193,
 v85:=Tryz.zeroValue193,
 t127:=Tryz.underlying145,
 a127:=Tryz.isAgg145,
 z127:=Tryz.sizeOf145,
 v127:=Tryz.zeroValue145,
 t143:=Tryz.underlying239,
 a143:=Tryz.isAgg239,
 z143:=Tryz.sizeOf239,
 v143:=Tryz.zeroValue239,
 t145:=Tryz.underlying241,
 a145:=Tryz.isAgg241,
 z145:=Tryz.sizeOf241,
 v145:=Tryz.zeroValue241,
 t167:=Tryz.underlying215,
 a167:=Tryz.isAgg215,
 z167:=Tryz.sizeOf215,
 v167:=Tryz.zeroValue215,
 t168:=Tryz.underlying218,
 a168:=Tryz.isAgg218,
 z168:=Tryz.sizeOf218,
 v168:=Tryz.zeroValue218,
 t171:=Tryz.underlying210,
 a171:=Tryz.isAgg210,
 z171:=Tryz.sizeOf210,
 v171:=Tryz.zeroValue210,
 t173:=Tryz.underlying212,
 a173:=Tryz.isAgg212,
 z173:=Tryz.sizeOf212,
 v173:=Tryz.zeroValue212,
 t175:=Tryz.underlying216,
 a175:=Tryz.isAgg216,
 z175:=Tryz.sizeOf216,
 v175:=Tryz.zeroValue216,
 t210:=Tryz.underlying235,
 a210:=Tryz.isAgg235,
 z210:=Tryz.sizeOf235,
 v210:=Tryz.zeroValue235,
 t212:=Tryz.underlying225,
 a212:=Tryz.isAgg225,
 z212:=Tryz.sizeOf225,
 v212:=Tryz.zeroValue225,
 t213:=Tryz.underlying226,
 a213:=Tryz.isAgg226,
 z213:=Tryz.sizeOf226,
 t232:=Tryz.underlying242,
 a232:=Tryz.isAgg242,
 z232:=Tryz.sizeOf242,
 v232:=Tryz.zeroValue242,
 t233:=Tryz.underlying243,
 a233:=Tryz.isAgg243,
 z233:=Tryz.sizeOf243,
 v233:=Tryz.zeroValue243,
 g15:=by kernel_rfl,
 g16:=by kernel_rfl,
 g17:=by kernel_rfl,
 g18:=by kernel_rfl,
 g19:=by kernel_rfl,
 t80:=Tryz.underlying107,
 a80:=Tryz.isAgg107,
 z80:=Tryz.sizeOf107,
 v80:=Tryz.zeroValue107,
 i0:=by kernel_rfl,
 i2:=by kernel_rfl,
 i3:=by kernel_rfl,
 i4:=by kernel_rfl,
 i5:=by kernel_rfl,
 i9:=by kernel_rfl,
 i20:=by kernel_rfl,
 i21:=by kernel_rfl,
 i37:=by kernel_rfl,
 i46:=by kernel_rfl,
 i51:=by kernel_rfl,
 i53:=by kernel_rfl,
 i75:=by kernel_rfl,
 i80:=by kernel_rfl,
 i85:=by kernel_rfl,
 i127:=by kernel_rfl,
 i143:=by kernel_rfl,
 i145:=by kernel_rfl,
 i167:=by kernel_rfl,
 i168:=by kernel_rfl,
 i171:=by kernel_rfl,
 i173:=by kernel_rfl,
 i175:=by kernel_rfl,
 i210:=by kernel_rfl,
 i212:=by kernel_rfl,
 i232:=by kernel_rfl,
 i233:=by kernel_rfl,
 m15:=by kernel_rfl,
 m16:=by kernel_rfl,
 m17:=by kernel_rfl,
 m18:=by kernel_rfl,
 m19:=by kernel_rfl,
 c0:=by kernel_rfl,
 c2:=by kernel_rfl,
 c3:=by kernel_rfl,
 c4:=by kernel_rfl,
 c5:=by kernel_rfl,
 c9:=by kernel_rfl,
 c20:=by kernel_rfl,
 c21:=by kernel_rfl,
 c37:=by kernel_rfl,
 c46:=by kernel_rfl,
 c51:=by kernel_rfl,
 c53:=by kernel_rfl,
 c75:=by kernel_rfl,
 c80:=by kernel_rfl,
 c85:=by kernel_rfl,
 c127:=by kernel_rfl,
 c143:=by kernel_rfl,
 c145:=by kernel_rfl,
 c167:=by kernel_rfl,
 c168:=by kernel_rfl,
 c171:=by kernel_rfl,
 c173:=by kernel_rfl,
 c175:=by kernel_rfl,
 c210:=by kernel_rfl,
 c212:=by kernel_rfl,
 c213:=by kernel_rfl,
 c232:=by kernel_rfl,
 c233:=by kernel_rfl }
def JVars (B:Nat) (w:World):Prop:=∀w',Below B w w'→Lib.TabIs Tryz.prog w' "internal/strconv.uint64pow10" .u64 Lib.pow10Tab∧∃tp p,w'.var? Tryz.prog "strconv.ErrRange" =some #[.iface tp p]
theorem JVars.step {B:Nat} {w w':World} (h:JVars B w) (hb:Below B w w'):JVars B w':=fun w'' h2=>h w'' (hb.trans h2)
theorem JVars.mod {B:Nat} {F:List Nat} {w w':World} (h:JVars B w) (m:Mod F w w') (hB:B≤w.heap.size) (hF:∀x∈F,B≤x):JVars B w':=h.step (m.below hB hF)
theorem jz6:∀(l:List UInt8) (a:Nat),a≤qq5 l a
 | [],a=>Nat.le_refl _
 | c ::t,a=>Nat.le_trans (by omega) (jz6 t (a * 10+(c.toNat - 48)))
theorem js9 {c:UInt8} (h:q72 c=true):48≤c.toNat∧c.toNat≤57:=by unfold q72 at h;simp only[Bool.and_eq_true,decide_eq_true_eq,UInt8.le_iff_toNat_le]at h;exact h
theorem j04:∀(l:List UInt8) (a:Nat),l.all q72=true→Lib.parseUintM 18446744073709551615 a l=if qq5 l a≤18446744073709551615∨l= []then .ok (qq5 l a)else .range
 | [],a,_=>by rw[if_pos (.inr rfl)];rfl
 | c ::t,a,h=>by
  simp only[List.all_cons,Bool.and_eq_true]at h
  have hd:=js9 h.1
  have hge:=jz6 t (a * 10+(c.toNat - 48))
  rw[Lib.parseUintM,if_pos hd]
  have e:qq5 (c ::t) a=qq5 t (a * 10+(c.toNat - 48)):=rfl
  by_cases h1:1844674407370955162≤a
  ·rw[if_pos h1,if_neg]
   rintro (h2 | h2)
   ·rw[e]at h2;omega
   ·cases h2
  ·rw[if_neg h1]
   by_cases h2:18446744073709551615 < a * 10+(c.toNat - 48)
   ·rw[if_pos h2,if_neg]
    rintro (h3 | h3)
    ·rw[e]at h3;omega
    ·cases h3
   ·rw[if_neg h2,j04 t _ h.2,e]
    by_cases h3:qq5 t (a * 10+(c.toNat - 48))≤18446744073709551615
    ·rw[if_pos (.inl h3),if_pos (.inl h3)]
    ·rw[if_neg (by rintro (h4 | h4);exact h3 h4;subst h4;exact h3 (by show a * 10+(c.toNat - 48)≤_;omega)),if_neg (by rintro (h4 | h4);exact h3 h4;cases h4)]
theorem qz9 {neg:Bool} {ds:List UInt8} (h:ds.all q72=true) (hne:ds≠ []):
  Lib.parseIntB 64 (if neg then 45 ::ds else ds)=if -9223372036854775808≤qa7 (neg,ds)∧qa7 (neg,ds) < 9223372036854775808 then .ok (qa7 (neg,ds))else .range:=by
 have hu:Lib.parseUintB 64 ds=if qq5 ds 0≤18446744073709551615 then .ok (qq5 ds 0)else .range:=by
  unfold Lib.parseUintB;rw[if_neg hne,show 2 ^ 64 - 1=18446744073709551615 from rfl,j04 ds 0 h];by_cases h1:qq5 ds 0≤18446744073709551615
  ·rw[if_pos h1,if_pos (.inl h1)]
  ·rw[if_neg h1,if_neg (by rintro (h2 | h2);exact h1 h2;exact hne h2)]
 obtain⟨c,t,rfl⟩:∃c t,ds=c ::t:=by
  cases ds with
  | nil=>exact absurd rfl hne
  | cons c t=>exact⟨c,t,rfl⟩
 have hd:48≤c.toNat∧c.toNat≤57:=(by simp only[List.all_cons,Bool.and_eq_true]at h;exact js9 h.1);obtain⟨n,hn⟩:∃n,qq5 (c ::t) 0=n:=⟨_,rfl⟩;rw[hn]at hu;cases neg with
 | true=>
  have e:qa7 (true,c ::t)= -(n:Int):=(by unfold qa7;rw[if_pos rfl,hn]);rw[e];show Lib.parseIntB 64 (45 ::c ::t)=_;unfold Lib.parseIntB;simp only[show(45:UInt8).toNat=45 from rfl,or_true,if_true,hu,not_true,false_and,if_false,true_and];by_cases h1:n≤18446744073709551615
  ·rw[if_pos h1];simp only;by_cases h2:2 ^ 63 < n
   ·rw[if_pos h2,if_neg];rintro ⟨h3,_⟩;have:(2:Nat) ^ 63=9223372036854775808:=rfl;omega
   ·rw[if_neg h2,if_pos];have:(2:Nat) ^ 63=9223372036854775808:=rfl;omega
  ·rw[if_neg h1,if_neg];rintro ⟨h3,_⟩;omega
 | false=>
  have e:qa7 (false,c ::t)=(n:Int):=(by unfold qa7;simp only[Bool.false_eq_true,if_false];rw[hn]);rw[e];show Lib.parseIntB 64 (c ::t)=_;unfold Lib.parseIntB;have c1:¬c.toNat=45:=(by omega);have c2:¬c.toNat=43:=(by omega);simp only[c1,c2,or_self,if_false,hu,not_false_eq_true,true_and,false_and];by_cases h1:n≤18446744073709551615
  ·rw[if_pos h1];simp only;by_cases h2:2 ^ 63≤n
   ·rw[if_pos h2,if_neg];rintro ⟨_,h3⟩;have:(2:Nat) ^ 63=9223372036854775808:=rfl;omega
   ·rw[if_neg h2,if_pos];have:(2:Nat) ^ 63=9223372036854775808:=rfl;omega
  ·rw[if_neg h1,if_neg];rintro ⟨_,h3⟩;omega
theorem jp6 (w:World) (S:ByteArray) (hS:S.size≤1000000) (v:Int) (h:Lib.parseIntB 64 S.data.toList=.ok v):
  Calls Tryz.prog 182 #[.string S,.int .i64 10,.int .i64 64] w fun e w'=>e=.returned (.tuple #[.int .i64 v,.nilIface])∧Mod [] w w':=by
 have hc:Calls Tryz.prog 182 #[.string S,.int .i64 10,.int .i64 64] w _:=Any.strconv_ParseInt_10_at64_ok zi S (by omega) v h w;refine hc.mono ?_;rintro e w' ⟨rfl,h | ⟨t,h⟩⟩
 ·subst h;exact⟨rfl,Mod.refl _ _⟩
 ·subst h;exact⟨rfl,Mod.of_below (Lib.bytesWorld_below _ _ _)⟩
theorem j39 (w:World) (S:ByteArray) (hS:S.size≤1000000) (h:Lib.parseIntB 64 S.data.toList=.range) (hv:∃tp p,w.var? Tryz.prog "strconv.ErrRange" =some #[.iface tp p]):
  Calls Tryz.prog 182 #[.string S,.int .i64 10,.int .i64 64] w fun e w'=>∃N,e=.returned (.tuple #[.int .i64 (Lib.intSat 64 S.data.toList),.iface 218 (.pointer (some ⟨N,0,none⟩))])∧Mod [] w w':=by
 obtain⟨tp,p,hv⟩:=hv;have hc:Calls Tryz.prog 182 #[.string S,.int .i64 10,.int .i64 64] w _:=Any.strconv_ParseInt_10_at64_range_var zi S (by omega) h tp p w hv;refine hc.mono ?_;rintro e w' ⟨N,rfl,_,_,hb⟩;exact⟨N,rfl,Mod.of_below hb⟩
end Go.Proofs.YtlfjhgamlkbofaaGreatDoor
namespace Go.Proofs.YtlfjhgamlkbofaaGreatDoor
open Go.RowKit Js Go.Sort
def d0S:ByteArray:=⟨#[48,49,50,51,52,53,54,55,56,57]⟩
def d1S:ByteArray:=⟨#[49,50,51,52,53,54,55,56,57]⟩
theorem zs7:inB d0S=fun c=>q72 c && (!false || c !=48):=by funext c;have key:∀n:Nat,n < 256→inB d0S (UInt8.ofNat n)=(q72 (UInt8.ofNat n) && (!false || UInt8.ofNat n !=48)):=(by decide);have:=key c.toNat (UInt8.toNat_lt c);simpa using this
theorem zs9:inB d1S=fun c=>q72 c && (!true || c !=48):=by funext c;have key:∀n:Nat,n < 256→inB d1S (UInt8.ofNat n)=(q72 (UInt8.ofNat n) && (!true || UInt8.ofNat n !=48)):=(by decide);have:=key c.toNat (UInt8.toNat_lt c);simpa using this
theorem jm7 (s:ByteArray) (i j:Nat):(s.extract i j).size≤s.size:=by rw[←q12,←q12,Lib.extract_data,List.length_take,List.length_drop];omega
theorem jz2 (s:ByteArray) {k j:Nat} {l:List UInt8} (h:rst s k=l++ rst s j) (hj:j≤s.size):(s.extract k j).data.toList=l:=by
 have hl:l.length=j - k:=by have h1:=congrArg List.length h;rw[List.length_append,q88 s hj]at h1;unfold rst at h1;rw[List.length_drop,q12]at h1;omega
 rw[Lib.extract_data];show(rst s k).take (j - k)=l;rw[h,←hl,List.take_left]
theorem Rd.keep {X w' w'':World} {p k:Nat} {s:ByteArray} (h:Rd X p s k) (m:Mod [] X w') (m2:Mod [] w' w''):(w''.cell? ⟨p,0,none⟩=some (.string s)∧w''.cell? ⟨p,1,none⟩=some (.int .i64 (k:Nat)))∧Mod [] X w'':=by have m3:=m.trans m2 (by simp);have hb:=m3.blk h.blk (by simp);exact⟨⟨hb.cell 0,hb.cell 1⟩,m3⟩
abbrev qf9 (X:World) (RB:Nat) (V:Array Value):World:=(List.range 5).foldl (fun w i=>w.setCell ⟨RB,i,none⟩ (V.getD i undef)) X
theorem qe8 (X:World) (RB:Nat) (V:Array Value):Mod [RB] X (qf9 X RB V):=(Mod.refl [RB] X).sets (g:=RB) (.inl (by simp)) (fun i=>V.getD i undef) (List.range 5)
theorem qe7 {X:World} {RB:Nat} {t:TypeId} {cs:Array Value} (V:Array Value) (h:Blk X RB t cs) (hc:cs.size=5) (hV:V.size=5):Blk (qf9 X RB V) RB t V:=by have hb2:=h.sets (fun i=>V.getD i undef) (List.range 5);rw[j59 _ _ 5 hc hV]at hb2;exact hb2
theorem jn9 (w:World) (p k:Nat) (s:ByteArray) (h:Rd w p s k) (hv:JVars p w):
  Calls Tryz.prog 150 #[.pointer (some ⟨p,0,none⟩)] w (RP w p s (q39 (rst s k)) fun v _ u=>u=.agg (JN.mk 3 v ⟨#[]⟩ none 0 [] none 0 []).cells):=by
 have hs:=h.small;have hpw:=h.blk.lt;have H0:=q00 (h.mod ((Mod.refl [] w).alloc (.cells #[.int .i64 0,.int .i64 0,.string ⟨#[]⟩,.slice none 0 0,.slice none 0 0] 43)) (by simp));have HM0:=q00 ((Mod.refl [p] w).alloc (.cells #[.int .i64 0,.int .i64 0,.string ⟨#[]⟩,.slice none 0 0,.slice none 0 0] 43));have HJ0:=q00 (hv.mod ((Mod.refl [] w).alloc (.cells #[.int .i64 0,.int .i64 0,.string ⟨#[]⟩,.slice none 0 0,.slice none 0 0] 43)) (by omega) (by simp));have HRB0:=q00 (Blk.new w 43 #[.int .i64 0,.int .i64 0,.string ⟨#[]⟩,.slice none 0 0,.slice none 0 0]);have HNx:=q00 (ql3 _ p k s H0.out);have hle:=h.le;have a1:IntKind.i64.wrap ((k:Int)+1)=(k:Int)+1:=IntWalk.i64_in _ (by omega);obtain⟨RB,hRB⟩:∃RB,w.heap.size=RB:=⟨_,rfl⟩;have HRp:Hid (RB∉ [p]):=q00 (by simp;omega);have HRw:Hid (w.heap.size≤RB):=q00 (by omega);rw[hRB]at HRB0;have hpr:¬p=RB:=(by omega);have hrp:¬RB=p:=(by omega);have y0:(w.alloc (.cells #[.int .i64 0,.int .i64 0,.string ⟨#[]⟩,.slice none 0 0,.slice none 0 0] 43)).cell? ⟨p,0,none⟩=some (.string s):=H0.out.blk.cell 0;have y1:(w.alloc (.cells #[.int .i64 0,.int .i64 0,.string ⟨#[]⟩,.slice none 0 0,.slice none 0 0] 43)).cell? ⟨p,1,none⟩=some (.int .i64 (k:Nat)):=H0.out.blk.cell 1;have u1:(w.alloc (.cells #[.int .i64 0,.int .i64 0,.string ⟨#[]⟩,.slice none 0 0,.slice none 0 0] 43)).frozen? ⟨p,1,none⟩=false:=H0.out.blk.frozen 1;have lp:=H0.out.blk.lt;clear h hv;go_enter Tryz.func150,Tryz.ntmps150;go_wp2_with fail;refine HNx.out.mono ?_;rintro e w1 ⟨rfl,m1,hr1⟩;have HMa:=q00 (HM0.out.trans m1 (by simp));have HRBa:=q00 (m1.blk HRB0.out (by simp));have HJa:=q00 (HJ0.out.mod m1 (by have:=H0.out.blk.lt;omega) (by simp));have Ha:=q00 hr1;clear m1 hr1 y0 y1 u1 lp hRB;have y0:w1.cell? ⟨p,0,none⟩=some (.string s):=Ha.out.blk.cell 0;have y1:w1.cell? ⟨p,1,none⟩=some (.int .i64 (k:Nat)):=Ha.out.blk.cell 1;have u1:w1.frozen? ⟨p,1,none⟩=false:=Ha.out.blk.frozen 1;have lp:=Ha.out.blk.lt;by_cases hneg:(rst s k).head? =some 45
 case' pos=>
  obtain⟨t,ht⟩:∃t,rst s k=45 ::t:=by
   cases hq:rst s k with
   | nil=>rw[hq]at hneg;cases hneg
   | cons c t=>rw[hq]at hneg;cases hneg;exact⟨t,rfl⟩
  obtain⟨hk,hkc,hkt⟩:=qb6 ht;have HSg0:Hid (qp0 (rst s k)=(qo9 true (rst s (k+1))).bind fun d r=> .ok (true,d) r):=q00 (by rw[ht,hkt];rfl);have HPre0:Hid (rst s k= [45]++ rst s (k+1)):=q00 (by rw[ht,hkt];rfl);have HK:=q00 hk;rw[hneg];have e0:(((some (45:UInt8)).getD 0).toNat:Int)=45:=rfl;rw[e0];clear hneg ht hkc hkt hk;go_wp2_with fail;have H1:=q00 (Ha.out.step HK.out);have m2:Mod [p] w1 (w1.setCell ⟨p,1,none⟩ (.int .i64 ((k:Int)+1))):=(Mod.refl [p] w1).setCell (.inl (by simp)) _;have HM1:=q00 (HMa.out.trans m2 (by simp));have HRB1:=q00 (m2.blk HRBa.out HRp.out);have HJ1:=q00 (HJa.out.mod m2 (by omega) (by simp));clear m2 y0 y1 u1 lp HMa HRBa HJa Ha HM0 HRB0 HJ0 H0 HNx;obtain⟨neg,hneg⟩:∃b,true=b:=⟨_,rfl⟩;obtain⟨sg,hsg⟩:∃l:List UInt8,[45]=l:=⟨_,rfl⟩;obtain⟨k1,hk1⟩:∃n,k+1=n:=⟨_,rfl⟩;have HSe:Hid (∀ds:List UInt8,sg++ ds=if neg then 45 ::ds else ds):=q00 (fun ds=>by rw[←hneg,←hsg];rfl);have HKk:Hid (k≤k1):=q00 (by omega);have HTk:=q00 (fun w' k' (h':Rd w' p s k')=>by have:=qg4 w' p k' s d1S h';rw[show inB d1S=fun c=>q72 c && (!neg || c !=48)by rw[←hneg];exact zs9]at this;exact this);unfold d1S at HTk;have HSg:Hid (qp0 (rst s k)=(qo9 neg (rst s k1)).bind fun d r=> .ok (neg,d) r):=q00 (by rw[←hneg,←hk1];exact HSg0.out);have HPre:Hid (rst s k=sg++ rst s k1):=q00 (by rw[←hsg,←hk1];exact HPre0.out);rw[hk1]at H1;clear hneg hsg hk1 HSg0 HPre0
 case' neg=>
  have HSg0:Hid (qp0 (rst s k)=(qo9 false (rst s k)).bind fun d r=> .ok (false,d) r):=q00 (by unfold qp0;rw[if_neg hneg]);have HPre0:Hid (rst s k= []++ rst s k):=q00 rfl;have hb:¬((((rst s k).head?.getD 0).toNat:Nat):Int)=45:=by
   intro e;apply hneg;cases hq:rst s k with
   | nil=>rw[hq]at e;simp at e
   | cons c t=>rw[hq]at e;simp only[List.head?_cons,Option.getD_some]at e;have:c=45:=UInt8.toNat_inj.1 (by show c.toNat=45;omega);rw[this];rfl
  obtain⟨hb0,hhb⟩:∃b:Nat,((rst s k).head?.getD 0).toNat=b:=⟨_,rfl⟩;rw[hhb]at hb ⊢;have g0:((hb0:Int)==45)=false:=(by rw[beq_eq_false_iff_ne];exact hb);have g0':(hb0==45)=false:=(by rw[beq_eq_false_iff_ne];omega);have H1:=Ha;have HM1:=HMa;have HRB1:=HRBa;have HJ1:=HJa;clear hneg hb hhb;go_wp2_with fail;clear y0 y1 u1 lp HMa HRBa HJa Ha HM0 HRB0 HJ0 H0 HNx g0 g0';obtain⟨neg,hneg⟩:∃b,false=b:=⟨_,rfl⟩;obtain⟨sg,hsg⟩:∃l:List UInt8,([]:List UInt8)=l:=⟨_,rfl⟩;obtain⟨k1,hk1⟩:∃n,k=n:=⟨_,rfl⟩;have HSe:Hid (∀ds:List UInt8,sg++ ds=if neg then 45 ::ds else ds):=q00 (fun ds=>by rw[←hneg,←hsg];rfl);have HKk:Hid (k≤k1):=q00 (by omega);have HTk:=q00 (fun w' k' (h':Rd w' p s k')=>by have:=qg4 w' p k' s d0S h';rw[show inB d0S=fun c=>q72 c && (!neg || c !=48)by rw[←hneg];exact zs7]at this;exact this);unfold d0S at HTk;have HSg:Hid (qp0 (rst s k)=(qo9 neg (rst s k1)).bind fun d r=> .ok (neg,d) r):=q00 (by rw[←hneg,←hk1];exact HSg0.out);have HPre:Hid (rst s k=sg++ rst s k1):=q00 (by rw[←hsg,←hk1];exact HPre0.out);rw[hk1]at H1;clear hneg hsg hk1 HSg0 HPre0
 all_goals
  refine(HTk.out _ _ H1.out).mono ?_
  rintro e w3 ⟨m3,hp⟩
  have HM3:=q00 (HM1.out.trans m3 (by simp))
  have HRB3:=q00 (m3.blk HRB1.out HRp.out)
  have HJ3:=q00 (HJ1.out.mod m3 (by have:=H1.out.blk.lt;omega) (by simp))
  cases hx:q19 (fun c=>q72 c && (!neg || c !=48)) (rst s k1)with
  | er r=>
   rw[hx]at hp
   obtain⟨k2,rfl,h1,h2⟩:=hp
   have HE:Hid (q39 (rst s k)=.er r):=q00 (by unfold q39;rw[HSg.out];unfold qo9;rw[hx];rfl)
   clear m3 hx
   go_wp2_with fail
   rename_i heq
   cases heq
   exact⟨rfl,RP.er HE.out HM3.out h1 h2⟩
  | ok c r=>
   rw[hx]at hp
   obtain⟨k2,u,rfl,rfl,h1,h2⟩:=hp
   obtain⟨hrc,hcp⟩:=q83 hx
   obtain⟨hk1,hk1c,hk1r⟩:=qb6 hrc
   have hk2:k2=k1+1:=by
    have e1:=q88 s h1.le
    have e2:=q88 s (show k1+1≤s.size by omega)
    rw[h2]at e1
    rw[hk1r]at e2
    have:=h1.le
    omega
   subst hk2
   have HPre2:Hid (rst s k=(sg++ [c])++ rst s (k1+1)):=q00 (by rw[HPre.out,hrc,h2];simp)
   have hdc:q72 c=true:=by simp only[Bool.and_eq_true]at hcp;exact hcp.1
   have HDc:=q00 hdc
   have H3:=q00 h1
   have HX3:=q00 hx
   have HR3:=q00 h2
   clear m3 hx h1 h2 hrc hcp hk1c hk1r hdc
   by_cases h48:c=48
   ·have g1:((c.toNat:Int) !=48)=false:=by rw[h48];rfl
    have g2:(c.toNat !=48)=false:=by rw[h48];rfl
    obtain⟨ds,hds⟩:∃ds,[c]=ds:=⟨_,rfl⟩
    have HSig:Hid (qp0 (rst s k)=.ok (neg,ds) (rst s (k1+1))):=q00 (by rw[HSg.out];unfold qo9;rw[HX3.out];simp only[PR.bind,if_pos h48,hds,HR3.out])
    have HEx:Hid ((s.extract k (k1+1)).data.toList=if neg then 45 ::ds else ds):=q00 (by rw[jz2 s HPre2.out H3.out.le,←HSe.out,←hds])
    have HDs:Hid (ds.all q72=true∧ds≠ []):=q00 (by rw[←hds];exact⟨by simp[HDc.out],by simp⟩)
    have HK3:Hid (k≤k1+1):=q00 (by have:=HKk.out;omega)
    clear hds h48
    obtain⟨k3,hk3⟩:∃k3,k1+1=k3:=⟨_,rfl⟩
    rw[hk3]at H3 HSig HEx HK3
    go_wp2_with fail
    have HX:=H3
    have HM:=HM3
    have HRB:=HRB3
    have HJv:=HJ3
    clear HM3 HRB3 HJ3 HM1 HRB1 HJ1 H1 HPre HPre2 HX3 HR3 HSg HTk H3 hk3 hk1 g1 g2 HDc
    have HPd:Hid (Lib.parseIntB 64 (if neg then 45 ::ds else ds)=if -9223372036854775808≤qa7 (neg,ds)∧qa7 (neg,ds) < 9223372036854775808 then .ok (qa7 (neg,ds))else .range):=q00 (qz9 (neg:=neg) HDs.out.1 HDs.out.2)
    obtain⟨E,hEx⟩:∃E,s.extract k k3=E:=⟨_,rfl⟩
    have hEl:=HEx.out
    rw[hEx]at hEl
    have HEl:=q00 hEl
    have hE1:E.size≤1000000:=by rw[←hEx];exact Nat.le_trans (jm7 s k k3) hs
    have HE1:=q00 hE1
    obtain⟨iv,hiv⟩:∃iv,qa7 (neg,ds)=iv:=⟨_,rfl⟩
    have HIv:=q00 hiv
    have e3:(k:Int)≤(k3:Nat):=by have:=HK3.out;omega
    have e4:((k3:Nat):Int)≤s.size:=by have:=HX.out.le;omega
    have HS:Hid ((w3.drew.cell? ⟨p,0,none⟩=some (.string s)∧w3.drew.cell? ⟨p,1,none⟩=some (.int .i64 (k3:Nat)))∧Mod [] w3 w3.drew):=q00 ⟨⟨HX.out.blk.cell 0,HX.out.blk.cell 1⟩,(Mod.refl [] w3).drew⟩
    have y0:w3.cell? ⟨p,0,none⟩=some (.string s):=HX.out.blk.cell 0
    have y1:w3.cell? ⟨p,1,none⟩=some (.int .i64 (k3:Nat)):=HX.out.blk.cell 1
    have u1:w3.frozen? ⟨p,1,none⟩=false:=HX.out.blk.frozen 1
    have lp:=HX.out.blk.lt
    by_cases hin: -9223372036854775808≤iv∧iv < 9223372036854775808
    ·have HPk:Hid (∀w',((w'.cell? ⟨p,0,none⟩=some (.string s)∧w'.cell? ⟨p,1,none⟩=some (.int .i64 (k3:Nat)))∧Mod [] w3 w')→Calls Tryz.prog 182 #[.string E,.int .i64 10,.int .i64 64] w' fun e w''=>e=.returned (.tuple #[.int .i64 iv,.nilIface])∧((w''.cell? ⟨p,0,none⟩=some (.string s)∧w''.cell? ⟨p,1,none⟩=some (.int .i64 (k3:Nat)))∧Mod [] w3 w'')):=q00 (fun w' hS'=>
      (jp6 w' E HE1.out iv (by rw[HEl.out,HPd.out,HIv.out,if_pos hin])).mono fun e w'' h=>⟨h.1,(HX.out.keep hS'.2 h.2)⟩)
     have HE:Hid (q39 (rst s k)=.ok iv (rst s k3)):=q00 (by
      unfold q39
      rw[HSig.out]
      simp only
      rw[HIv.out,if_pos hin])
     clear hEl hE1 hin hiv
     go_wp2_with fail
     go_region_held3 (fun w'=>(w'.cell? ⟨p,0,none⟩=some (.string s)∧w'.cell? ⟨p,1,none⟩=some (.int .i64 (k3:Nat)))∧Mod [] w3 w')
      (first | exact HS.out | assumption)
      (first | (go_at_call 182;refine(HPk.out _ (by assumption)).mono ?_;rintro e w' ⟨rfl,hS'⟩))
     all_goals
      have m4:=hS'.2
      have HM4:=q00 (HM.out.trans m4 (by simp))
      have H4:=q00 (HX.out.mod m4 (by simp))
      have HRB4:=q00 (m4.blk HRB.out (by simp))
      have HV:=q00 (qe7 (JN.mk 3 iv ⟨#[]⟩ none 0 [] none 0 []).cells HRB4.out rfl rfl)
      clear m4 hS' y0 y1 u1 lp
      have z0:w'.cell? ⟨RB,0,none⟩=some (.int .i64 0):=HRB4.out.cell 0
      have r0:w'.frozen? ⟨RB,0,none⟩=false:=HRB4.out.frozen 0
      have z1:w'.cell? ⟨RB,1,none⟩=some (.int .i64 0):=HRB4.out.cell 1
      have r1:w'.frozen? ⟨RB,1,none⟩=false:=HRB4.out.frozen 1
      have z2:w'.cell? ⟨RB,2,none⟩=some (.string ⟨#[]⟩):=HRB4.out.cell 2
      have r2:w'.frozen? ⟨RB,2,none⟩=false:=HRB4.out.frozen 2
      have z3:w'.cell? ⟨RB,3,none⟩=some (.slice none 0 0):=HRB4.out.cell 3
      have r3:w'.frozen? ⟨RB,3,none⟩=false:=HRB4.out.frozen 3
      have z4:w'.cell? ⟨RB,4,none⟩=some (.slice none 0 0):=HRB4.out.cell 4
      have r4:w'.frozen? ⟨RB,4,none⟩=false:=HRB4.out.frozen 4
      have lR:=HRB4.out.lt
      go_wp2_with fail
      have m5:=qe8 w' RB (JN.mk 3 iv ⟨#[]⟩ none 0 [] none 0 []).cells
      refine bodyPost_ret (results_cell_row rfl _ _ RB 43 (JN.mk 3 iv ⟨#[]⟩ none 0 [] none 0 []).cells (0,0) _ rfl ?_ Tryz.underlying43 rfl (by kernel_rfl)) rfl ?_
      ·exact HV.out
      exact RP.ok HE.out (HM4.out.trans m5 (by simp only[List.mem_singleton];rintro _ rfl;exact .inr HRw.out)) rfl (H4.out.mod m5 (by simp only[List.mem_singleton];exact hpr)) rfl
    ·have HPk:Hid (∀w',((w'.cell? ⟨p,0,none⟩=some (.string s)∧w'.cell? ⟨p,1,none⟩=some (.int .i64 (k3:Nat)))∧Mod [] w3 w')→Calls Tryz.prog 182 #[.string E,.int .i64 10,.int .i64 64] w' fun e w''=>∃N,e=.returned (.tuple #[.int .i64 (Lib.intSat 64 E.data.toList),.iface 218 (.pointer (some ⟨N,0,none⟩))])∧((w''.cell? ⟨p,0,none⟩=some (.string s)∧w''.cell? ⟨p,1,none⟩=some (.int .i64 (k3:Nat)))∧Mod [] w3 w'')):=q00 (fun w' hS'=>
      (j39 w' E HE1.out (by rw[HEl.out,HPd.out,HIv.out,if_neg hin]) (HJv.out w' (hS'.2.below (by have:=HX.out.blk.lt;omega) (by simp))).2).mono fun e w'' h=>by
       obtain⟨N,h1,h2⟩:=h
       exact⟨N,h1,HX.out.keep hS'.2 h2⟩)
     have HE:Hid (q39 (rst s k)=.er (rst s k)):=q00 (by
      unfold q39
      rw[HSig.out]
      simp only
      rw[HIv.out,if_neg hin])
     clear hEl hE1 hin hiv
     go_wp2_with fail
     obtain⟨sat,hsat⟩:∃v,Lib.intSat 64 E.data.toList=v:=⟨_,rfl⟩
     rw[hsat]at HPk
     clear hsat
     go_region_held3 (fun w'=>(w'.cell? ⟨p,0,none⟩=some (.string s)∧w'.cell? ⟨p,1,none⟩=some (.int .i64 (k3:Nat)))∧Mod [] w3 w')
      (first | exact HS.out | assumption)
      (first | (go_at_call 182;refine(HPk.out _ (by assumption)).mono ?_;rintro e w' ⟨N,rfl,hS'⟩))
     all_goals
      have m4:=hS'.2
      have HM4:=q00 (HM.out.trans m4 (by simp))
      have H4:=q00 (HX.out.mod m4 (by simp))
      clear m4 hS' y0 y1 u1 lp
      have y0:w'.cell? ⟨p,0,none⟩=some (.string s):=H4.out.blk.cell 0
      have y1:w'.cell? ⟨p,1,none⟩=some (.int .i64 (k3:Nat)):=H4.out.blk.cell 1
      have u1:w'.frozen? ⟨p,1,none⟩=false:=H4.out.blk.frozen 1
      have lp:=H4.out.blk.lt
      go_wp2_with fail
      have hf:Rd (w'.setCell ⟨p,1,none⟩ (.int .i64 (k:Nat))) p s k:=⟨H4.out.blk.set_ 1 (.int .i64 (k:Nat)),hle,hs⟩
      refine(ql _ p k s hf).mono ?_
      rintro e w5 ⟨rfl,rfl⟩
      go_wp2_with fail
      rename_i heq
      cases heq
      exact⟨rfl,RP.er HE.out (HM4.out.setCell (p:=⟨p,1,none⟩) (.inl (by simp)) _) hle rfl⟩
   ·have g1:((c.toNat:Int) !=48)=true:=by
     rw[bne_iff_ne]
     intro e
     exact h48 (UInt8.toNat_inj.1 (by show c.toNat=48;omega))
    have g2:(c.toNat !=48)=true:=by
     rw[bne_iff_ne]
     intro e
     exact h48 (UInt8.toNat_inj.1 (by show c.toNat=48;omega))
    have HSg2:Hid (qp0 (rst s k)=.ok (neg,c ::(rst s (k1+1)).takeWhile q72) ((rst s (k1+1)).dropWhile q72)):=q00 (by rw[HSg.out];unfold qo9;rw[HX3.out];simp only[PR.bind,if_neg h48,HR3.out])
    have HKq:Hid (k≤k1+1):=q00 (by have:=HKk.out;omega)
    obtain⟨kq,hkq⟩:∃kq,k1+1=kq:=⟨_,rfl⟩
    rw[hkq]at H3 HSg2 HPre2 HKq
    clear h48 HX3 HR3 HSg HPre hkq hk1
    go_wp2_with fail
    clear g1 g2 HTk HM1 HRB1 HJ1 H1
    go_loopw [] (fun wr=>∃j:Nat,kq≤j∧j≤s.size∧Hid (Mod [p] w wr)∧Hid (Rd wr p s j)∧Hid (Blk wr RB 43 #[.int .i64 0,.int .i64 0,.string ⟨#[]⟩,.slice none 0 0,.slice none 0 0])∧Hid (JVars p wr)∧Hid (∃l:List UInt8,l.all q72=true∧rst s kq=l++ rst s j)) (fun wr=>s.size - qm0 p wr)
    case atStart=>exact⟨kq,Nat.le_refl _,H3.out.le,HM3,H3,HRB3,HJ3,q00 ⟨[],rfl,rfl⟩⟩
    case round=>
     obtain⟨j,hjq,hj,hm,hr,hrb,hjv,hdl⟩:=hrel
     have y0:wr.cell? ⟨p,0,none⟩=some (.string s):=hr.out.blk.cell 0
     have y1:wr.cell? ⟨p,1,none⟩=some (.int .i64 (j:Nat)):=hr.out.blk.cell 1
     have u1:wr.frozen? ⟨p,1,none⟩=false:=hr.out.blk.frozen 1
     have lp:=hr.out.blk.lt
     have HA:Hid (qm0 p wr=j):=q00 (by unfold qm0;rw[y1];rfl)
     by_cases hd:(rst s j).head?.any q72=true
     ·obtain⟨c',t,hq,hd⟩:∃c' t,rst s j=c' ::t∧q72 c'=true:=by
       cases hq:rst s j with
       | nil=>rw[hq]at hd;cases hd
       | cons c t=>rw[hq]at hd;exact⟨c,t,rfl,hd⟩
      obtain⟨h1,h2,h3⟩:=qb6 hq
      have g1:decide ((j:Int) < s.size)=true:=decide_eq_true (by omega)
      have g2:decide (j < s.size)=true:=decide_eq_true h1
      have hji:(j:Int) < s.size:=by omega
      have hxc:s[j]'h1=c':=qi0 s j _ c' h2
      have a2:IntKind.i64.wrap ((j:Int)+1)=(j:Int)+1:=IntWalk.i64_in _ (by omega)
      have HK:=q00 h1
      obtain⟨n,hn⟩:∃n,c'.toNat=n:=⟨_,rfl⟩
      obtain⟨d1,d2⟩:=js9 hd
      rw[hn]at d1 d2
      have g3:decide ((48:Int)≤n)=true:=decide_eq_true (by omega)
      have g4:decide (48≤n)=true:=decide_eq_true d1
      have g5:decide ((n:Int)≤57)=true:=decide_eq_true (by omega)
      have g6:decide (n≤57)=true:=decide_eq_true d2
      have HD:Hid (∃l:List UInt8,l.all q72=true∧rst s kq=l++ rst s (j+1)):=q00 (by
       obtain⟨l,l1,l2⟩:=hdl.out
       exact⟨l++ [c'],by simp only[List.all_append,l1,List.all_cons,List.all_nil,hd,Bool.and_self],by rw[l2,hq,h3];simp⟩)
      clear hd hq h2 h3 d1 d2 hdl
      go_wp2_with fail
      go_quiet (fail)
      go_wp2_with fail
      have H4:Rd (wr.drewN nq) p s j:=hr.out.mod ((Mod.refl [] wr).drewN nq) (by simp)
      have H5:=H4.step HK.out
      have m5:Mod [p] wr ((wr.drewN nq).setCell ⟨p,1,none⟩ (.int .i64 ((j:Int)+1))):=((Mod.refl [p] wr).drewN nq).setCell (.inl (by simp)) _
      refine⟨?rel,?measure⟩
      case rel=>exact⟨j+1,by omega,by omega,q00 (hm.out.trans m5 (by simp)),q00 H5,q00 (m5.blk hrb.out HRp.out),q00 (hjv.out.mod m5 (by omega) (by simp)),HD⟩
      case measure=>
       have e:qm0 p ((wr.drewN nq).setCell ⟨p,1,none⟩ (.int .i64 ((j:Int)+1)))=j+1:=by
        unfold qm0
        rw[H5.blk.cell 1]
        rfl
       rw[HA.out,e]
       omega
     ·have hnd:(rst s j).head?.any q72=false:=by simpa using hd
      clear HA
      cases hq:rst s j
      case' nil=>
       have hk:=j58 hq hj
       have g1:decide ((j:Int) < s.size)=false:=decide_eq_false (by omega)
       have g2:decide (j < s.size)=false:=decide_eq_false (by omega)
       clear hq hk hd
       go_wp2_with fail
       go_quiet (fail)
       clear g1 g2
      case' cons c' t=>
       obtain⟨h1,h2,h3⟩:=qb6 hq
       have g1:decide ((j:Int) < s.size)=true:=decide_eq_true (by omega)
       have g2:decide (j < s.size)=true:=decide_eq_true h1
       have hji:(j:Int) < s.size:=by omega
       have hxc:s[j]'h1=c':=qi0 s j _ c' h2
       obtain⟨n,hn⟩:∃n,c'.toNat=n:=⟨_,rfl⟩
       have hor:n < 48∨57 < n:=by
        rw[hq]at hd
        simp only[List.head?_cons,Option.any_some]at hd
        unfold q72 at hd
        simp only[Bool.and_eq_true,decide_eq_true_eq,UInt8.le_iff_toNat_le,not_and]at hd
        have h48:(48:UInt8).toNat=48:=rfl
        have h57:(57:UInt8).toNat=57:=rfl
        rw[h48,h57,hn]at hd
        omega
       clear hd hq h2 h3
       by_cases h48:n < 48
       case' pos=>
        have g3:decide ((48:Int)≤n)=false:=decide_eq_false (by omega)
        have g4:decide (48≤n)=false:=decide_eq_false (by omega)
        clear hor h48
        go_wp2_with fail
        go_quiet (fail)
        clear g1 g2 g3 g4 hji hn hxc h1
       case' neg=>
        have g3:decide ((48:Int)≤n)=true:=decide_eq_true (by omega)
        have g4:decide (48≤n)=true:=decide_eq_true (by omega)
        have g5:decide ((n:Int)≤57)=false:=decide_eq_false (by omega)
        have g6:decide (n≤57)=false:=decide_eq_false (by omega)
        clear hor h48
        go_wp2_with fail
        go_quiet (fail)
        clear g1 g2 g3 g4 g5 g6 hji hn hxc h1
      all_goals
       have HNd:=q00 hnd
       clear hnd y0 y1 u1 lp
       have m4:=(Mod.refl [] wr).drewN nq
       obtain⟨X,hX⟩:∃X,wr.drewN nq=X:=⟨_,rfl⟩
       rw[hX]at m4
       rw[hX]
       have HX:=q00 (hr.out.mod m4 (by simp))
       have HM:=q00 (hm.out.trans m4 (by simp))
       have HRB:=q00 (m4.blk hrb.out (by simp))
       have HJv:=q00 (hjv.out.mod m4 (by have:=hr.out.blk.lt;omega) (by simp))
       obtain⟨l,l1,l2⟩:=hdl.out
       obtain⟨q1,q2⟩:=j73 q72 l (rst s j) l1 HNd.out
       obtain⟨ds,hds⟩:∃ds,c ::l=ds:=⟨_,rfl⟩
       have HSig:Hid (qp0 (rst s k)=.ok (neg,ds) (rst s j)):=q00 (by rw[HSg2.out,l2,q1,q2,hds])
       have HEx:Hid ((s.extract k j).data.toList=if neg then 45 ::ds else ds):=q00 (by rw[jz2 s (j:=j) (l:=sg++ [c]++ l) (by rw[HPre2.out,l2];simp) hj,←HSe.out,←hds];simp)
       have HDs:Hid (ds.all q72=true∧ds≠ []):=q00 (by rw[←hds];exact⟨by simp only[List.all_cons,HDc.out,l1,Bool.and_self],by simp⟩)
       have HK3:Hid (k≤j):=q00 (by have:=HKq.out;omega)
       clear m4 hX l1 l2 q1 q2 hds hdl hm hr hrb hjv
       have HPd:Hid (Lib.parseIntB 64 (if neg then 45 ::ds else ds)=if -9223372036854775808≤qa7 (neg,ds)∧qa7 (neg,ds) < 9223372036854775808 then .ok (qa7 (neg,ds))else .range):=q00 (qz9 (neg:=neg) HDs.out.1 HDs.out.2)
       obtain⟨E,hEx⟩:∃E,s.extract k j=E:=⟨_,rfl⟩
       have hEl:=HEx.out
       rw[hEx]at hEl
       have HEl:=q00 hEl
       have hE1:E.size≤1000000:=by rw[←hEx];exact Nat.le_trans (jm7 s k j) hs
       have HE1:=q00 hE1
       obtain⟨iv,hiv⟩:∃iv,qa7 (neg,ds)=iv:=⟨_,rfl⟩
       have HIv:=q00 hiv
       have e3:(k:Int)≤(j:Nat):=by have:=HK3.out;omega
       have e4:((j:Nat):Int)≤s.size:=by have:=HX.out.le;omega
       have HS:Hid ((X.drew.cell? ⟨p,0,none⟩=some (.string s)∧X.drew.cell? ⟨p,1,none⟩=some (.int .i64 (j:Nat)))∧Mod [] X X.drew):=q00 ⟨⟨HX.out.blk.cell 0,HX.out.blk.cell 1⟩,(Mod.refl [] X).drew⟩
       have y0:X.cell? ⟨p,0,none⟩=some (.string s):=HX.out.blk.cell 0
       have y1:X.cell? ⟨p,1,none⟩=some (.int .i64 (j:Nat)):=HX.out.blk.cell 1
       have u1:X.frozen? ⟨p,1,none⟩=false:=HX.out.blk.frozen 1
       have lp:=HX.out.blk.lt
       by_cases hin: -9223372036854775808≤iv∧iv < 9223372036854775808
       ·have HPk:Hid (∀w',((w'.cell? ⟨p,0,none⟩=some (.string s)∧w'.cell? ⟨p,1,none⟩=some (.int .i64 (j:Nat)))∧Mod [] X w')→Calls Tryz.prog 182 #[.string E,.int .i64 10,.int .i64 64] w' fun e w''=>e=.returned (.tuple #[.int .i64 iv,.nilIface])∧((w''.cell? ⟨p,0,none⟩=some (.string s)∧w''.cell? ⟨p,1,none⟩=some (.int .i64 (j:Nat)))∧Mod [] X w'')):=q00 (fun w' hS'=>
         (jp6 w' E HE1.out iv (by rw[HEl.out,HPd.out,HIv.out,if_pos hin])).mono fun e w'' h=>⟨h.1,(HX.out.keep hS'.2 h.2)⟩)
        have HE:Hid (q39 (rst s k)=.ok iv (rst s j)):=q00 (by
         unfold q39
         rw[HSig.out]
         simp only
         rw[HIv.out,if_pos hin])
        clear hEl hE1 hin hiv
        go_wp2_with fail
        go_region_held3 (fun w'=>(w'.cell? ⟨p,0,none⟩=some (.string s)∧w'.cell? ⟨p,1,none⟩=some (.int .i64 (j:Nat)))∧Mod [] X w')
         (first | exact HS.out | assumption)
         (first | (go_at_call 182;refine(HPk.out _ (by assumption)).mono ?_;rintro e w' ⟨rfl,hS'⟩))
        all_goals
         have m4:=hS'.2
         have HM4:=q00 (HM.out.trans m4 (by simp))
         have H4:=q00 (HX.out.mod m4 (by simp))
         have HRB4:=q00 (m4.blk HRB.out (by simp))
         have HV:=q00 (qe7 (JN.mk 3 iv ⟨#[]⟩ none 0 [] none 0 []).cells HRB4.out rfl rfl)
         clear m4 hS' y0 y1 u1 lp
         have z0:w'.cell? ⟨RB,0,none⟩=some (.int .i64 0):=HRB4.out.cell 0
         have r0:w'.frozen? ⟨RB,0,none⟩=false:=HRB4.out.frozen 0
         have z1:w'.cell? ⟨RB,1,none⟩=some (.int .i64 0):=HRB4.out.cell 1
         have r1:w'.frozen? ⟨RB,1,none⟩=false:=HRB4.out.frozen 1
         have z2:w'.cell? ⟨RB,2,none⟩=some (.string ⟨#[]⟩):=HRB4.out.cell 2
         have r2:w'.frozen? ⟨RB,2,none⟩=false:=HRB4.out.frozen 2
         have z3:w'.cell? ⟨RB,3,none⟩=some (.slice none 0 0):=HRB4.out.cell 3
         have r3:w'.frozen? ⟨RB,3,none⟩=false:=HRB4.out.frozen 3
         have z4:w'.cell? ⟨RB,4,none⟩=some (.slice none 0 0):=HRB4.out.cell 4
         have r4:w'.frozen? ⟨RB,4,none⟩=false:=HRB4.out.frozen 4
         have lR:=HRB4.out.lt
         go_wp2_with fail
         have m5:=qe8 w' RB (JN.mk 3 iv ⟨#[]⟩ none 0 [] none 0 []).cells
         refine bodyPost_ret (results_cell_row rfl _ _ RB 43 (JN.mk 3 iv ⟨#[]⟩ none 0 [] none 0 []).cells (0,0) _ rfl ?_ Tryz.underlying43 rfl (by kernel_rfl)) rfl ?_
         ·exact HV.out
         exact RP.ok HE.out (HM4.out.trans m5 (by simp only[List.mem_singleton];rintro _ rfl;exact .inr HRw.out)) rfl (H4.out.mod m5 (by simp only[List.mem_singleton];exact hpr)) rfl
       ·have HPk:Hid (∀w',((w'.cell? ⟨p,0,none⟩=some (.string s)∧w'.cell? ⟨p,1,none⟩=some (.int .i64 (j:Nat)))∧Mod [] X w')→Calls Tryz.prog 182 #[.string E,.int .i64 10,.int .i64 64] w' fun e w''=>∃N,e=.returned (.tuple #[.int .i64 (Lib.intSat 64 E.data.toList),.iface 218 (.pointer (some ⟨N,0,none⟩))])∧((w''.cell? ⟨p,0,none⟩=some (.string s)∧w''.cell? ⟨p,1,none⟩=some (.int .i64 (j:Nat)))∧Mod [] X w'')):=q00 (fun w' hS'=>
         (j39 w' E HE1.out (by rw[HEl.out,HPd.out,HIv.out,if_neg hin]) (HJv.out w' (hS'.2.below (by have:=HX.out.blk.lt;omega) (by simp))).2).mono fun e w'' h=>by
          obtain⟨N,h1,h2⟩:=h
          exact⟨N,h1,HX.out.keep hS'.2 h2⟩)
        have HE:Hid (q39 (rst s k)=.er (rst s k)):=q00 (by
         unfold q39
         rw[HSig.out]
         simp only
         rw[HIv.out,if_neg hin])
        clear hEl hE1 hin hiv
        go_wp2_with fail
        obtain⟨sat,hsat⟩:∃v,Lib.intSat 64 E.data.toList=v:=⟨_,rfl⟩
        rw[hsat]at HPk
        clear hsat
        go_region_held3 (fun w'=>(w'.cell? ⟨p,0,none⟩=some (.string s)∧w'.cell? ⟨p,1,none⟩=some (.int .i64 (j:Nat)))∧Mod [] X w')
         (first | exact HS.out | assumption)
         (first | (go_at_call 182;refine(HPk.out _ (by assumption)).mono ?_;rintro e w' ⟨N,rfl,hS'⟩))
        all_goals
         have m4:=hS'.2
         have HM4:=q00 (HM.out.trans m4 (by simp))
         have H4:=q00 (HX.out.mod m4 (by simp))
         clear m4 hS' y0 y1 u1 lp
         have y0:w'.cell? ⟨p,0,none⟩=some (.string s):=H4.out.blk.cell 0
         have y1:w'.cell? ⟨p,1,none⟩=some (.int .i64 (j:Nat)):=H4.out.blk.cell 1
         have u1:w'.frozen? ⟨p,1,none⟩=false:=H4.out.blk.frozen 1
         have lp:=H4.out.blk.lt
         go_wp2_with fail
         have hf:Rd (w'.setCell ⟨p,1,none⟩ (.int .i64 (k:Nat))) p s k:=⟨H4.out.blk.set_ 1 (.int .i64 (k:Nat)),hle,hs⟩
         refine(ql _ p k s hf).mono ?_
         rintro e w5 ⟨rfl,rfl⟩
         go_wp2_with fail
         rename_i heq
         cases heq
         exact⟨rfl,RP.er HE.out (HM4.out.setCell (p:=⟨p,1,none⟩) (.inl (by simp)) _) hle rfl⟩
mutual
def q41:JN→List Nat
 | .mk _ _ _ A _ l B _ _=>(A.map (·.block)).toList++ (B.map (·.block)).toList++ JFoots l
def JFoots:List JN→List Nat
 | []=> []
 | x ::l=>q41 x++ JFoots l
end
theorem JFoots.inv {g:Nat} :∀ {l:List JN},g∈JFoots l→∃x∈l,g∈q41 x
 | [],h=>by rw[JFoots]at h;cases h
 | y ::l,h=>by
  rw[JFoots,List.mem_append]at h
  rcases h with h | h
  ·exact⟨y,by simp,h⟩
  ·obtain⟨x,h1,h2⟩:=JFoots.inv h
   exact⟨x,by simp[h1],h2⟩
theorem KeysAt.mod {F:List Nat} {w w':World} {B:Option Addr} {ks:List ByteArray} (h:KeysAt w B ks) (m:Mod F w w') (hB:∀g∈(B.map (·.block)).toList,g∉F):KeysAt w' B ks:=by
 rcases h with h | ⟨g,o,rfl,h2,h3⟩
 ·exact .inl h
 ·exact .inr ⟨g,o,rfl,Nat.lt_of_lt_of_le h2 m.size,fun j x hx=>(m.cell (p:=⟨g,o+j,none⟩) h2 (hB g (by simp))).trans (h3 j x hx)⟩
theorem RowAt.mod {F:List Nat} {w w':World} {A:Option Addr} {l:List JN} (h:RowAt w A l) (m:Mod F w w') (hA:∀g∈(A.map (·.block)).toList,g∉F):RowAt w' A l:=by
 rcases h with h | ⟨g,o,rfl,h2,h3⟩
 ·exact .inl h
 ·exact .inr ⟨g,o,rfl,Nat.lt_of_lt_of_le h2 m.size,fun j x hx i u hu=>(m.cell (p:=⟨g,o+j * 5+i,none⟩) h2 (hA g (by simp))).trans (h3 j x hx i u hu)⟩
mutual
theorem JIn.mod {F:List Nat} {w w':World} (m:Mod F w w'):∀ {x:JN},(∀g∈q41 x,g∉F)→JIn w x→JIn w' x
 | .mk k i t A c l B d ks,hf,h=>by
  rw[JIn]at h ⊢
  rw[q41]at hf
  exact⟨h.1,h.2.1.mod m (fun g hg=>hf g (by simp only[List.mem_append];exact .inl (.inr hg))),h.2.2.1.mod m (fun g hg=>hf g (by simp only[List.mem_append];exact .inl (.inl hg))),
   JIns.mod m (fun g hg=>hf g (by simp only[List.mem_append];exact .inr hg)) h.2.2.2⟩
theorem JIns.mod {F:List Nat} {w w':World} (m:Mod F w w'):∀ {l:List JN},(∀g∈JFoots l,g∉F)→JIns w l→JIns w' l
 | [],_,_=>trivial
 | x ::l,hf,h=>by
  rw[JIns]at h ⊢
  rw[JFoots]at hf
  exact⟨JIn.mod m (fun g hg=>hf g (by simp[hg])) h.1,JIns.mod m (fun g hg=>hf g (by simp[hg])) h.2⟩
end
def q26 (l:List JN):List Value:=l.flatMap fun x=>x.cells.toList
theorem j99 (l:List JN) (x:JN):q26 (l++ [x])=q26 l++ x.cells.toList:=by unfold q26;simp
theorem qp1:∀(l:List JN) (j:Nat) (x:JN),l[j]? =some x→∀i u,x.cells[i]? =some u→(q26 l)[j * 5+i]? =some u
 | [],j,x,h=>by simp at h
 | y ::l,0,x,h=>by
  cases h
  intro i u hu
  have hs:i < y.cells.size:=(Array.getElem?_eq_some_iff.1 hu).1
  unfold q26
  rw[List.flatMap_cons,Nat.zero_mul,Nat.zero_add,List.getElem?_append_left (by simpa using hs)]
  simpa using hu
 | y ::l,j+1,x,h=>by
  intro i u hu
  have h2:=qp1 l j x (by simpa using h) i u hu
  unfold q26 at h2 ⊢
  have h5:y.cells.toList.length=5:=by simpa using y.cells_size
  rw[List.flatMap_cons,List.getElem?_append_right (by rw[h5];omega),h5]
  rw[←h2]
  congr 1
  omega
theorem z06 {w:World} {base n d size:Nat} {e:TypeId} {B:Option Addr} {xs:List Value} (h:w.ownsRow base e size (.slice B n d) n xs):n≤d:=by
 rcases h.2 with⟨h0,h1⟩ | ⟨g,cap,cur,hv,_,_,q1,_⟩
 ·omega
 ·cases hv;exact q1
structure MS (w:World) (base vb:Nat) (kd:Int) (A:Option Addr) (c:Nat) (l:List JN) (B:Option Addr) (d:Nat) (ks:List ByteArray):Prop where
 v:Blk w vb 43 (JN.mk kd 0 ⟨#[]⟩ A c l B d ks).cells
 lo:w.ownsRow base 43 5 (.slice A l.length c) l.length (q26 l)
 ko:w.ownsRow base 9 1 (.slice B ks.length d) ks.length (ks.map Value.string)
 inn:∀x∈l,JIn w x∧∀g∈q41 x,base≤g∧g < w.heap.size∧(Value.slice A l.length c).ownBlock≠some g∧(Value.slice B ks.length d).ownBlock≠some g
section
variable {w w' W:World} {base vb:Nat} {kd:Int} {A B:Option Addr} {c d:Nat} {l:List JN} {ks:List ByteArray}
theorem MS.fresh (h:Blk w vb 43 (JN.mk kd 0 ⟨#[]⟩ none 0 [] none 0 []).cells) (base:Nat):MS w base vb kd none 0 [] none 0 []:=
 ⟨h,World.ownsRow_nil _ _ _ _,World.ownsRow_nil _ _ _ _,by simp⟩
theorem MS.mod {F:List Nat} (h:MS w base vb kd A c l B d ks) (m:Mod F w w') (hF:∀g∈F,g < base∧g≠vb):MS w' base vb kd A c l B d ks:=by
 refine⟨m.blk h.v (fun hv=>(hF vb hv).2 rfl),m.own h.lo (fun k hk hf=> ?_),m.own h.ko (fun k hk hf=> ?_),fun x hx=> ?_⟩
 ·have:=(h.lo.lt k hk).1;have:=(hF k hf).1;omega
 ·have:=(h.ko.lt k hk).1;have:=(hF k hf).1;omega
 ·obtain⟨h1,h2⟩:=h.inn x hx;refine⟨JIn.mod m (fun g hg hf=> ?_) h1,fun g hg=> ?_⟩
  ·have:=(h2 g hg).1;have:=(hF g hf).1;omega
  ·obtain⟨a1,a2,a3,a4⟩:=h2 g hg;exact⟨a1,Nat.lt_of_lt_of_le a2 m.size,a3,a4⟩
theorem MS.apart (h:MS w base vb kd A c l B d ks):∀k,(Value.slice A l.length c).ownBlock=some k→(Value.slice B ks.length d).ownBlock≠some k:=by
 intro k h1 h2;rcases h.ko.2 with⟨h0,_⟩ | ⟨g,cap,cur,hv,_,hh,_⟩
 ·rw[h0]at h2;cases h2
 ·rw[hv]at h2;cases h2;exact qq6 h.lo (show Blk w g 9 cur from hh) (by decide) g h1 rfl
theorem jk1:(Tryz.prog.info? 9).map (fun i=>(i.zero,i.size,i.bytes))=some (some (.string ⟨#[]⟩),1,16):=by kernel_rfl
theorem jk9:(Tryz.prog.info? 43).map (fun i=>(i.zero,i.size,i.bytes))=some (some (.agg #[.int .i64 0,.int .i64 0,.string ⟨#[]⟩,.slice none 0 0,.slice none 0 0]),5,80):=by kernel_rfl
theorem MS.key (h:MS w base vb kd A c l B d ks) (hvb:vb < base) (hb:base≤w.heap.size) (hn:ks.length≤1000000) (S:ByteArray) (zb:Nat) (hz:Blk w zb 9 #[.string S]):
  ∃B' d' w6,(Builtin.append_ #[41,41] 41 #[.slice B ks.length d,.slice (some ⟨zb,0,none⟩) 1 1]).run Tryz.prog w=.ok (.slice B' (ks.length+1) d') w6∧
   Blk w6 vb 43 (JN.mk kd 0 ⟨#[]⟩ A c l B d ks).cells∧
   MS (w6.setCell ⟨vb,4,none⟩ (.slice B' (ks.length+1) d')) base vb kd A c l B' d' (ks++ [S])∧
   (∀F,Mod F W w→W.heap.size≤base→vb∈F→Mod F W (w6.setCell ⟨vb,4,none⟩ (.slice B' (ks.length+1) d')))∧
   (∀g t cs,g < base→g≠vb→Blk w g t cs→Blk (w6.setCell ⟨vb,4,none⟩ (.slice B' (ks.length+1) d')) g t cs):=by
 obtain⟨B',d',w6,h1,h2,h3,h4⟩:=qk0 (P:=Tryz.prog) Tryz.underlying41 jk1 rfl w 41 base _ _ _ h.ko hb [.string S] rfl (by simp[Value.oneCell']) (by omega) (by omega) zb (fun j u hu=>by rw[hz.cell j,List.getElem?_toArray,hu]);have own:∀k∈(Value.slice B ks.length d).ownBlock.toList,base≤k:=fun k hk=>(by rw[Option.mem_toList]at hk;exact(h.ko.lt k hk).1);have hv6:Blk w6 vb 43 (JN.mk kd 0 ⟨#[]⟩ A c l B d ks).cells:=h3.blk h.v (fun hk=>by have:=own _ hk;omega);have hl:(ks++ [S]).length=ks.length+1:=(by simp);refine⟨B',d',w6,h1,hv6,⟨?_,?_,?_,fun x hx=> ?_⟩,fun F hF hW hvF=> ?_,fun g t cs hg hgv hbk=> ?_⟩
 ·have:=hv6.set_ 4 (.slice B' (ks.length+1) d');show Blk _ vb 43 #[.int .i64 kd,.int .i64 0,.string ⟨#[]⟩,.slice A l.length c,.slice B' (ks++ [S]).length d'];rw[hl];exact this
 ·have hl6:=h3.own h.lo (fun k hk hm=>h.apart k hk (by rw[Option.mem_toList]at hm;exact hm));exact qg0 hl6 (fun k hk=>by have:=(h.lo.lt k hk).1;show k≠vb;omega) _
 ·rw[hl,List.map_append];refine qg0 h2 (fun k hk=> ?_) _;have:=(h2.lt k hk).1;show k≠vb;omega
 ·obtain⟨a,b⟩:=h.inn x hx;have m:Mod ((Value.slice B ks.length d).ownBlock.toList++ [vb]) w (w6.setCell ⟨vb,4,none⟩ (.slice B' (ks.length+1) d')):=(h3.mono (fun y hy=> .inl (by simp only[List.mem_append];exact .inl hy))).setCell (p:=⟨vb,4,none⟩) (.inl (by simp)) _;refine⟨JIn.mod m (fun g hg hm=> ?_) a,fun g hg=> ?_⟩
  ·obtain⟨b1,b2,b3,b4⟩:=b g hg;simp only[List.mem_append,Option.mem_toList,List.mem_singleton]at hm;rcases hm with hm | hm
   ·exact b4 hm
   ·omega
  ·obtain⟨b1,b2,b3,b4⟩:=b g hg;refine⟨b1,Nat.lt_of_lt_of_le b2 m.size,b3,?_⟩;rw[hl];rcases h4 with h4 | h4
   ·rw[h4];exact b4
   ·rw[h4];intro e;cases e;omega
 ·refine(hF.trans h3 (fun y hy=> .inr ?_)).setCell (.inl hvF) _;have:=own y hy;omega
 ·exact(h3.blk hbk (fun hk=>by have:=own _ hk;omega)).far hgv _
abbrev jr9 (X:World) (g o:Nat) (V:Array Value):World:=(List.range 5).foldl (fun w i=>w.setCell ⟨g,o+i,none⟩ (V.getD i undef)) X
theorem qv1 (g o:Nat) (V:Array Value) (X:World):Mod [g] X (jr9 X g o V):=by
 have key:∀(l:List Nat) (Y:World),Mod [g] X Y→Mod [g] X (l.foldl (fun w i=>w.setCell ⟨g,o+i,none⟩ (V.getD i undef)) Y):=by
  intro l;induction l with
  | nil=>intro Y h;exact h
  | cons i l ih=>intro Y h;exact ih _ (h.setCell (p:=⟨g,o+i,none⟩) (.inl (by simp)) _)
 exact key _ X (Mod.refl _ _)
def jd9 (cs:Array Value) (o:Nat) (V:Array Value):Array Value:=(List.range 5).foldl (fun c i=>c.setIfInBounds (o+i) (V.getD i undef)) cs
theorem z96 {X:World} {g o:Nat} {t:TypeId} {cs:Array Value} (V:Array Value) (h:Blk X g t cs):Blk (jr9 X g o V) g t (jd9 cs o V):=by
 have key:∀(l:List Nat) (Y:World) (cs:Array Value),Blk Y g t cs→Blk (l.foldl (fun w i=>w.setCell ⟨g,o+i,none⟩ (V.getD i undef)) Y) g t (l.foldl (fun c i=>c.setIfInBounds (o+i) (V.getD i undef)) cs):=by
  intro l;induction l with
  | nil=>intro Y cs h;exact h
  | cons i l ih=>intro Y cs h;exact ih _ _ (h.set_ (o+i) _)
 exact key _ X cs h
theorem js4 (cs V:Array Value) (o:Nat):(jd9 cs o V).size=cs.size:=by
 have key:∀(l:List Nat) (cs:Array Value),(l.foldl (fun c i=>c.setIfInBounds (o+i) (V.getD i undef)) cs).size=cs.size:=by
  intro l;induction l with
  | nil=>intro cs;rfl
  | cons i l ih=>intro cs;rw[List.foldl_cons,ih];simp
 exact key _ cs
theorem zb0 (cs V:Array Value) (o:Nat) (hV:V.size=5) (hc:o+5≤cs.size) (j:Nat):(jd9 cs o V)[j]? =if o≤j∧j < o+5 then V[j - o]? else cs[j]? :=by
 have key:∀(n:Nat),n≤5→∀j,((List.range n).foldl (fun c i=>c.setIfInBounds (o+i) (V.getD i undef)) cs)[j]? =if o≤j∧j < o+n then V[j - o]? else cs[j]? :=by
  intro n;induction n with
  | zero=>intro _ j;rw[if_neg (by omega)];rfl
  | succ n ih=>
   intro hn j;have hsz:((List.range n).foldl (fun c i=>c.setIfInBounds (o+i) (V.getD i undef)) cs).size=cs.size:=by
    have key:∀(l:List Nat) (cs:Array Value),(l.foldl (fun c i=>c.setIfInBounds (o+i) (V.getD i undef)) cs).size=cs.size:=by
     intro l;induction l with
     | nil=>intro cs;rfl
     | cons i l ih=>intro cs;rw[List.foldl_cons,ih];simp
    exact key _ cs
   rw[List.range_succ,List.foldl_append];simp only[List.foldl_cons,List.foldl_nil];rw[Array.getElem?_setIfInBounds];by_cases e:o+n=j
   ·rw[if_pos e,if_pos (by rw[hsz];omega),if_pos (by omega),←e,Nat.add_sub_cancel_left];have:n < V.size:=(by omega);simp[Array.getD,this]
   ·rw[if_neg e,ih (by omega) j];by_cases h3:o≤j∧j < o+n
    ·rw[if_pos h3,if_pos (by omega)]
    ·rw[if_neg h3,if_neg (by omega)]
 exact key 5 (Nat.le_refl _) j
theorem jp5 {e:TypeId} {n cap g:Nat} {xs zs:List Value} (h:w.ownsRow base e 5 (.slice (some ⟨g,0,none⟩) (n+1) cap) (n+1) (xs++ zs)) (hz:zs.length=5) (V:Array Value) (hV:V.size=5):
  (jr9 w g (n * 5) V).ownsRow base e 5 (.slice (some ⟨g,0,none⟩) (n+1) cap) (n+1) (xs++ V.toList):=by
 have hx:xs.length=n * 5:=by have:=h.1;rw[List.length_append,hz]at this;omega
 rcases h.2 with⟨h0,_⟩ | ⟨g',cap',cur,hv,hb,hh,hc1,hc2,hc3,hc4⟩
 ·cases h0
 ·cases hv;refine⟨by rw[List.length_append,hx];simp[hV];omega,.inr ⟨g,cap,jd9 cur (n * 5) V,rfl,hb,z96 V hh,hc1,hc2,by rw[js4];exact hc3,?_⟩⟩;have hcs:n * 5+5≤cur.size:=(by rw[hc3];omega);apply List.ext_getElem?;intro j;rw[List.getElem?_take];have hat:(jd9 cur (n * 5) V).toList[j]? =(jd9 cur (n * 5) V)[j]? :=(by simp);by_cases hj:j < (n+1) * 5
  ·rw[if_pos hj,hat,zb0 cur V _ hV hcs];by_cases h5:n * 5≤j
   ·rw[if_pos ⟨h5,by omega⟩,List.getElem?_append_right (by omega),hx];first | rfl | simp
   ·rw[if_neg (by omega),List.getElem?_append_left (by omega)];have e1:=congrArg (fun t=>t[j]?) hc4;rw[List.getElem?_take,if_pos hj,List.getElem?_append_left (by omega)]at e1;simpa using e1
  ·rw[if_neg hj,List.getElem?_eq_none];rw[List.length_append,hx];simp[hV];omega
def zcs:Array Value:= #[.int .i64 0,.int .i64 0,.string ⟨#[]⟩,.slice none 0 0,.slice none 0 0]
theorem MS.val (h:MS w base vb kd A c l B d ks) (hvb:vb < base) (hb:base≤w.heap.size) (hn:l.length≤1000000) (x:JN) (hx:JIn w x) (hxf:∀g∈q41 x,base≤g∧g < w.heap.size∧(Value.slice A l.length c).ownBlock≠some g∧(Value.slice B ks.length d).ownBlock≠some g) (zb:Nat) (hz:Blk w zb 43 zcs):
  ∃g' c' w6,(Builtin.append_ #[40,40] 40 #[.slice A l.length c,.slice (some ⟨zb,0,none⟩) 1 1]).run Tryz.prog w=.ok (.slice (some ⟨g',0,none⟩) (l.length+1) c') w6∧
   Blk w6 vb 43 (JN.mk kd 0 ⟨#[]⟩ A c l B d ks).cells∧g'≠vb∧(∃cur,Blk w6 g' 43 cur∧l.length * 5+5≤cur.size)∧
   ∀w8,(w8=(jr9 w6 g' (l.length * 5) x.cells).setCell ⟨vb,3,none⟩ (.slice (some ⟨g',0,none⟩) (l.length+1) c')∨w8=jr9 (w6.setCell ⟨vb,3,none⟩ (.slice (some ⟨g',0,none⟩) (l.length+1) c')) g' (l.length * 5) x.cells)→
    MS w8 base vb kd (some ⟨g',0,none⟩) c' (l++ [x]) B d ks∧
    (∀F,Mod F W w→W.heap.size≤base→vb∈F→Mod F W w8)∧
    (∀g t cs,g < base→g≠vb→Blk w g t cs→Blk w8 g t cs):=by
 obtain⟨A',c',w6,h1,h2,h3,h4⟩:=qk0 (P:=Tryz.prog) Tryz.underlying40 jk9 rfl w 40 base _ _ _ h.lo hb zcs.toList rfl (by simp[zcs,Value.oneCell']) (by omega) (by omega) zb (fun j u hu=>by rw[hz.cell j];simpa using hu);obtain⟨g',rfl⟩:∃g',A'=some ⟨g',0,none⟩:=by
  rcases h2.2 with⟨h0,h0'⟩ | ⟨g,cap,cur,hv,_⟩
  ·omega
  ·cases hv;exact⟨g,rfl⟩
 have own:∀k∈(Value.slice A l.length c).ownBlock.toList,base≤k:=fun k hk=>(by rw[Option.mem_toList]at hk;exact(h.lo.lt k hk).1);have hg':base≤g':=(h2.lt g' rfl).1;have hv6:Blk w6 vb 43 (JN.mk kd 0 ⟨#[]⟩ A c l B d ks).cells:=h3.blk h.v (fun hk=>by have:=own _ hk;omega);have hl:(l++ [x]).length=l.length+1:=(by simp);have hcur:∃cur,Blk w6 g' 43 cur∧l.length * 5+5≤cur.size:=by
  rcases h2.2 with⟨h0,_⟩ | ⟨g,cap,cur,hv,_,hh,q1,q2,q3,_⟩
  ·cases h0
  ·cases hv;exact⟨cur,hh,by omega⟩
 have hnb:(Value.slice (some ⟨g',0,none⟩) (l.length+1) c').ownBlock=some g':=rfl;have hfar:∀g,g < w.heap.size→(Value.slice A l.length c).ownBlock≠some g→g'≠g:=by
  intro g hg hne e;subst e;rcases h4 with h4 | h4
  ·rw[hnb]at h4;exact hne h4.symm
  ·rw[hnb]at h4;cases h4;omega
 refine⟨g',c',w6,h1,hv6,by omega,hcur,?_⟩;intro w8 hw8;have m8:Mod ((Value.slice A l.length c).ownBlock.toList++ [g',vb]) w w8:=by
  have m0:Mod ((Value.slice A l.length c).ownBlock.toList++ [g',vb]) w w6:=h3.mono (fun y hy=> .inl (by simp only[List.mem_append];exact .inl hy));rcases hw8 with rfl | rfl
  ·exact(m0.trans (qv1 g' _ _ w6) (by simp)).setCell (p:=⟨vb,3,none⟩) (.inl (by simp)) _
  ·exact(m0.setCell (p:=⟨vb,3,none⟩) (.inl (by simp)) _).trans (qv1 g' _ _ _) (by simp)
 have hv8:Blk w8 vb 43 (JN.mk kd 0 ⟨#[]⟩ (some ⟨g',0,none⟩) c' (l++ [x]) B d ks).cells:=by
  show Blk _ vb 43 #[.int .i64 kd,.int .i64 0,.string ⟨#[]⟩,.slice (some ⟨g',0,none⟩) (l++ [x]).length c',.slice B ks.length d];rw[hl];rcases hw8 with rfl | rfl
  ·exact((qv1 g' _ _ w6).blk hv6 (by simp;omega)).set_ 3 _
  ·exact(qv1 g' _ _ _).blk (hv6.set_ 3 _) (by simp;omega)
 have hlo8:w8.ownsRow base 43 5 (.slice (some ⟨g',0,none⟩) (l.length+1) c') (l.length+1) (q26 l++ x.cells.toList):=by
  rcases hw8 with rfl | rfl
  ·refine qg0 (jp5 h2 rfl x.cells x.cells_size) (fun k hk=> ?_) _;rw[hnb]at hk;cases hk;show g'≠vb;omega
  ·refine jp5 (qg0 h2 (fun k hk=> ?_) _) rfl x.cells x.cells_size;rw[hnb]at hk;cases hk;show g'≠vb;omega
 have hBne:∀k,(Value.slice B ks.length d).ownBlock=some k→k∉(Value.slice A l.length c).ownBlock.toList++ [g',vb]:=by
  intro k hk hm;simp only[List.mem_append,Option.mem_toList,List.mem_cons,List.mem_nil_iff,or_false]at hm;have hkb:=h.ko.lt k hk;rcases hm with hm | hm | hm
  ·exact h.apart k hm hk
  ·exact hfar k hkb.2 (fun e=>h.apart k e hk) hm.symm
  ·omega
 have innx:∀y,JIn w y→(∀g∈q41 y,base≤g∧g < w.heap.size∧(Value.slice A l.length c).ownBlock≠some g∧(Value.slice B ks.length d).ownBlock≠some g)→
   JIn w8 y∧∀g∈q41 y,base≤g∧g < w8.heap.size∧(Value.slice (some ⟨g',0,none⟩) (l.length+1) c').ownBlock≠some g∧(Value.slice B ks.length d).ownBlock≠some g:=by
  intro y hy hf;refine⟨JIn.mod m8 (fun g hg hm=> ?_) hy,fun g hg=> ?_⟩
  ·obtain⟨b1,b2,b3,b4⟩:=hf g hg;simp only[List.mem_append,Option.mem_toList,List.mem_cons,List.mem_nil_iff,or_false]at hm;rcases hm with hm | hm | hm
   ·exact b3 hm
   ·exact hfar g b2 b3 hm.symm
   ·omega
  ·obtain⟨b1,b2,b3,b4⟩:=hf g hg;refine⟨b1,Nat.lt_of_lt_of_le b2 m8.size,?_,b4⟩;rw[hnb];intro e;cases e;exact hfar _ b2 b3 rfl
 refine⟨⟨hv8,?_,m8.own h.ko hBne,fun y hy=> ?_⟩,fun F hF hW hvF=> ?_,fun g t cs hg hgv hbk=> ?_⟩
 ·rw[hl,j99];exact hlo8
 ·rw[hl];rcases List.mem_append.1 hy with hy | hy
  ·obtain⟨a,b⟩:=h.inn y hy;exact innx y a b
  ·rw[List.mem_singleton]at hy;subst hy;exact innx y hx hxf
 ·refine hF.trans m8 (fun y hy=> ?_);simp only[List.mem_append,List.mem_cons,List.mem_nil_iff,or_false]at hy;rcases hy with hy | hy | hy
  ·right;have:=own y hy;omega
  ·right;omega
  ·left;rw[hy];exact hvF
 ·refine m8.blk hbk (fun hm=> ?_);simp only[List.mem_append,List.mem_cons,List.mem_nil_iff,or_false]at hm;rcases hm with hm | hm | hm
  ·have:=own _ hm;omega
  ·omega
  ·exact hgv hm
theorem MS.jin (h:MS w base vb kd A c l B d ks) (hl:l.length≤q99) (hk:ks.length≤q99):JIn w (.mk kd 0 ⟨#[]⟩ A c l B d ks)∧∀g∈q41 (.mk kd 0 ⟨#[]⟩ A c l B d ks),base≤g∧g < w.heap.size:=by
 refine⟨?_,?_⟩
 ·rw[JIn];refine⟨⟨hl,hk,z06 h.ko⟩,?_,?_,JIns.of fun x hx=>(h.inn x hx).1⟩
  ·rcases h.ko.2 with⟨h0,h0'⟩ | ⟨g,cap,cur,hv,hb,hh,q1,q2,q3,q4⟩
   ·exact .inl (List.eq_nil_of_length_eq_zero h0')
   ·cases hv;refine .inr ⟨g,0,rfl,Blk.lt hh,fun j x hx=> ?_⟩;have:=World.ownsRow.cells h.ko (g:=g) rfl j (.string x) (by rw[List.getElem?_map,hx];rfl);rw[Addr.add_lit]at this;exact this
  ·rcases h.lo.2 with⟨h0,h0'⟩ | ⟨g,cap,cur,hv,hb,hh,q1,q2,q3,q4⟩
   ·exact .inl (List.eq_nil_of_length_eq_zero h0')
   ·cases hv;refine .inr ⟨g,0,rfl,Blk.lt hh,fun j x hx i u hu=> ?_⟩;have:=World.ownsRow.cells h.lo (g:=g) rfl (j * 5+i) u (qp1 l j x hx i u hu);rw[Addr.add_lit]at this;rw[Nat.zero_add]at this;rw[Nat.zero_add];exact this
 ·intro g hg;rw[q41]at hg;simp only[List.mem_append]at hg;rcases hg with(hg | hg) | hg
  ·rcases h.lo.2 with⟨h0,_⟩ | ⟨g',cap,cur,hv,hb,_⟩
   ·injection h0 with e1 _ _;subst e1;cases hg
   ·cases hv;simp at hg;subst hg;exact h.lo.lt g rfl
  ·rcases h.ko.2 with⟨h0,_⟩ | ⟨g',cap,cur,hv,hb,_⟩
   ·injection h0 with e1 _ _;subst e1;cases hg
   ·cases hv;simp at hg;subst hg;exact h.ko.lt g rfl
  ·obtain⟨x,h1,h2⟩:=JFoots.inv hg;exact⟨((h.inn x h1).2 g h2).1,((h.inn x h1).2 g h2).2.1⟩
end
end Go.Proofs.YtlfjhgamlkbofaaGreatDoor
