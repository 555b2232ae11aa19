/-
  Contracts of the functions that the laws of this seat reach, and plain laws, part 13 of 15; no condition.
-/
import Derived.Test.YtlfjhgamlkbofaaGreatDoorVE1
import Derived.Test.YtlfjhgamlkbofaaGreatDoorVJ1
import Derived.Test.YtlfjhgamlkbofaaGreatDoorVJ3
import Derived.Test.YtlfjhgamlkbofaaGreatDoorVC
import Derived.Lib.IndexLaws
import Derived.Deep.QuietTactic
import Derived.BigQuiet
import Derived.Test.YtlfjhgamlkbofaaGreatDoorVE5
import Derived.Test.YtlfjhgamlkbofaaGreatDoorVE2
import Derived.Test.YtlfjhgamlkbofaaGreatDoorVJ2
import Derived.Test.YtlfjhgamlkbofaaGreatDoorVF1
import Derived.Test.YtlfjhgamlkbofaaGreatDoorVE4
import Derived.Test.YtlfjhgamlkbofaaGreatDoorRows
import Derived.Stop.LaidErr
import Derived.MakeChecks
import Derived.WalkSmall
set_option linter.unusedVariables false
set_option linter.unusedSimpArgs false
set_option linter.unnecessarySimpa false
set_option maxRecDepth 100000
set_option maxHeartbeats 16000000
namespace Go.Proofs.YtlfjhgamlkbofaaGreatDoor
open Go.RowKit Js
def cutV (s:ByteArray):Value:=match cut10 s.data.toList with
 | some x=> .tuple #[str x.1,str x.2,.bool true]
 | none=> .tuple #[.string s,.string ⟨#[]⟩,.bool false]
theorem cut10_ix:∀l:List UInt8,match cut10 l with
  | some x=>Lib.indexByte l 10=x.1.length∧x.1=l.take x.1.length∧x.2=l.drop (x.1.length+1)
  | none=>Lib.indexByte l 10= -1
 | []=>rfl
 | c ::l=>by
  have ih:=cut10_ix l;rw[cut10];by_cases h:c=10
  ·rw[if_pos h];simp[Lib.indexByte,h]
  ·rw[if_neg h];have hb:(c==10)=false:=(by simpa using h);unfold Lib.indexByte;rw[hb];cases hc:cut10 l with
   | none=>rw[hc]at ih;simp only[Option.map_none]at ih ⊢;rw[ih];rfl
   | some x=>
    rw[hc]at ih;simp only[Option.map_some]at ih ⊢;obtain⟨h1,h2,h3⟩:=ih;have hn:(Lib.indexByte l 10== -1)=false:=(by rw[h1,beq_eq_false_iff_ne];omega);rw[hn,h1];refine⟨by simp,?_,?_⟩
    ·simp only[List.length_cons,List.take_succ_cons];rw[←h2]
    ·simp only[List.length_cons,List.drop_succ_cons];exact h3
theorem index1_any (w:World) (s:ByteArray):Calls Tryz.prog 108 #[.string s,.string ⟨#[10]⟩] w fun e w'=>e=.returned (.int .i64 (Lib.indexByte s.data.toList 10))∧w'=w:=by
 have HI:Hid (Calls Tryz.prog 141 #[.string s,.int .u8 10] w fun e w'=>e=.returned (.int .i64 (Lib.indexByte s.data.toList 10))∧w'=w):=hide (Any.stringslite_IndexByte { ixLays with } s 10 w);by_cases h:s=⟨#[10]⟩
 ·subst h;go_enter Tryz.func108,Tryz.ntmps108;go_wp2_with fail;go_ret;exact⟨rfl,rfl⟩
 ·have hne:((⟨#[10]⟩:ByteArray).toList==s.toList)=false:=toList_ne (fun e=>h e.symm);have hne2:([10]==s.toList)=false:=by have h2:=hne;rw[Lib.toList_data ⟨#[10]⟩]at h2;exact h2
  clear h;go_enter Tryz.func108,Tryz.ntmps108;go_wp2_with fail;refine HI.out.mono ?_;rintro e w' ⟨rfl,rfl⟩;go_wp2_with fail;go_ret;exact⟨rfl,rfl⟩
theorem cut1_any (w:World) (s:ByteArray) (hs:s.size≤1000000):Calls Tryz.prog 39 #[.string s,.string ⟨#[10]⟩] w fun e w'=>e=.returned (cutV s)∧Mod [] w w':=by
 have H:=index1_any w s;have hix:=cut10_ix s.data.toList;have key:Calls Tryz.prog 76 #[.string s,.string ⟨#[10]⟩] w fun e w'=>e=.returned (cutV s)∧Mod [] w w':=by
  unfold cutV;cases hc:cut10 s.data.toList with
  | none=>rw[hc]at hix;simp only at hix;rw[hix]at H;have H1:=hide H;clear H hix hc;go_enter Tryz.func76,Tryz.ntmps76;go_wp2_with fail;refine H1.out.mono ?_;rintro e w' ⟨rfl,rfl⟩;go_wp2_with fail;refine bodyPost_ret (results_tmp3 rfl _ _ _) rfl ?_;exact⟨rfl,Mod.refl _ _⟩
  | some x=>
   rw[hc]at hix;obtain⟨h1,h2,h3⟩:=hix;obtain⟨n,hn⟩:∃n,x.1.length=n:=⟨_,rfl⟩;rw[hn]at h1 h2 h3;have hsz:n+1≤s.size:=by have:=cut10_some hc;have:=congrArg List.length this;rw[bytes_len]at this;simp only[List.length_append,List.length_cons]at this;omega
   rw[h1]at H;have H1:=hide H
   have HE:Hid (Value.tuple #[str x.1,str x.2,.bool true]=.tuple #[.string (s.extract 0 n),.string (s.extract (n+1) s.size),.bool true]):=hide (by
    have e1:str x.1=.string (s.extract 0 n):=by
     rw[h2];unfold str;congr 1;apply bytes_eq;rw[Lib.extract_data];simp
    have e2:str x.2=.string (s.extract (n+1) s.size):=by
     rw[h3];unfold str;congr 1;apply bytes_eq
     rw[Lib.extract_data,List.take_of_length_le (by rw[List.length_drop,bytes_len];omega)]
    rw[e1,e2])
   simp only[HE.out];clear H h1 h2 h3 hn hc HE;have c0:(0:Int)≤(n:Int):=(by omega);have c1:(n:Int)≤(s.size:Int):=(by omega);have c2:IntKind.i64.wrap ((n:Int)+1)=(n:Int)+1:=IntWalk.i64_in _ (by omega);have c3:(0:Int)≤(n:Int)+1:=(by omega);have c4:(n:Int)+1≤(s.size:Int):=(by omega);have c5:((n:Int)+1).toNat=n+1:=(by omega);go_enter Tryz.func76,Tryz.ntmps76;go_wp2_with fail;refine H1.out.mono ?_;rintro e w' ⟨rfl,rfl⟩;go_wp2_with fail;go_quiet (fail);clear c2 c5;go_wp2_with fail;refine bodyPost_ret (results_tmp3 rfl _ _ _) rfl ?_;exact⟨rfl,(Mod.refl [] _).drewN _⟩
 have K:=hide key;obtain⟨a,b,c,hv⟩:∃a b c,cutV s=.tuple #[a,b,c]:=(by unfold cutV;cases cut10 s.data.toList <;> exact⟨_,_,_,rfl⟩);rw[hv]at K ⊢;clear H hix key hv;go_enter Tryz.func39,Tryz.ntmps39;go_wp2_with fail;refine K.out.mono ?_;rintro e w1 ⟨rfl,m1⟩;go_wp2_with fail;refine bodyPost_ret (results_tmp3 rfl _ _ _) rfl ?_;exact⟨rfl,m1⟩
def preV (l:List UInt8):Value:=if l.head? =some 30 then .tuple #[str l.tail,.bool true]else .tuple #[str l,.bool false]
theorem prefix1_any (w:World) (s:ByteArray) (hs:s.size≤1000000):Calls Tryz.prog 40 #[.string s,.string ⟨#[30]⟩] w fun e w'=>e=.returned (preV s.data.toList)∧w'=w:=by
 have key:Calls Tryz.prog 77 #[.string s,.string ⟨#[30]⟩] w fun e w'=>e=.returned (preV s.data.toList)∧w'=w:=by
  by_cases h0:s.size=0
  ·obtain rfl:=size0 h0;have hp:preV ([]:List UInt8)=.tuple #[.string ⟨#[]⟩,.bool false]:=rfl;have hd:(⟨#[]⟩:ByteArray).data.toList= []:=rfl;rw[hd,hp];clear h0;go_enter Tryz.func77,Tryz.ntmps77;go_wp2_with go_in;go_ret2;exact⟨rfl,rfl⟩
  ·have hne:s.data.toList≠ []:=fun h=>h0 (by rw[←bytes_len,h];rfl);obtain⟨c,l,hcl⟩:=List.exists_cons_of_ne_nil hne;rw[hcl];have he:s.extract 0 1=⟨#[c]⟩:=(by apply bytes_eq;rw[Lib.extract_data,hcl];rfl);have he2:(.string (s.extract 1 s.size):Value)=str l:=(by unfold str;congr 1;apply bytes_eq;rw[Lib.extract_data,List.take_of_length_le (by rw[List.length_drop,bytes_len];omega),hcl];rfl);have hst:(.string s:Value)=str (c ::l):=(by unfold str;rw[←hcl]);have s1:1≤s.size:=(by omega);have HE2:=hide he2;have HSt:=hide hst;have HL:Hid ((s.extract 0 1).toList= [c]):=hide (by rw[Lib.toList_data,he]);clear h0 hne hcl he2 hst he;by_cases h:c=30
   ·have hq:((s.extract 0 1).toList== [30])=true:=(by rw[HL.out,h];rfl);have hp:preV (c ::l)=.tuple #[str l,.bool true]:=(by unfold preV;rw[h];rfl);rw[hp,←HE2.out];clear hp;go_enter Tryz.func77,Tryz.ntmps77;go_wp2_with go_in;go_ret2;exact⟨rfl,rfl⟩
   ·have hq:((s.extract 0 1).toList== [30])=false:=(by rw[HL.out];simpa using h);have hp:preV (c ::l)=.tuple #[.string s,.bool false]:=(by unfold preV;rw[if_neg (by simpa using h),HSt.out]);rw[hp];clear hp;go_enter Tryz.func77,Tryz.ntmps77;go_wp2_with go_in;go_ret2;exact⟨rfl,rfl⟩
 have K:=hide key;obtain⟨a,b,hv⟩:∃a b,preV s.data.toList=.tuple #[a,b]:=by
  unfold preV
  split <;> exact⟨_,_,rfl⟩
 rw[hv]at K ⊢;clear key hv;go_enter Tryz.func40,Tryz.ntmps40;go_wp2_with fail;refine K.out.mono ?_;rintro e w1 ⟨rfl,rfl⟩;go_wp2_with fail;go_ret2;exact⟨rfl,rfl⟩
def said (s:List UInt8):Option Ev:=if(jread s).2.2=0 then eof (jread s).1 else none
theorem sread_eq (s:List UInt8):sread s=(cut10 s).bind fun x=>if x.1.head? =some 30 then(said x.1.tail).map fun e=>(e,x.2)else none:=by
 unfold sread said;congr 1;funext x
 split
 ·split <;> rfl
 ·rfl
def SaidPost (w:World) (s:List UInt8) (r:Ending) (w':World):Prop:=∃(A:Option Addr) (c:Nat) (e:Ev),r=.returned (.tuple #[evval A e.f.list.length c e,.bool (said s).isSome])∧(∀e',said s=some e'→e=e')∧ROwn w' w.heap.size A c e.f.list∧e.f.list.length≤64∧Mod [] w w'
theorem said_any (w:World) (x:ByteArray) (hx:x.size≤1000000) (B:Nat) (hB:B≤w.heap.size) (hj:JVars B w):Calls Tryz.prog 41 #[.string x] w (SaidPost w x.data.toList):=by
 have HR0:=hide (Blk.new w 38 (ecs none 0 0 ev0));have HM0:=hide ((Mod.refl [] w).alloc (.cells (ecs none 0 0 ev0) 38));have hrd:=jread_any (w.alloc (.cells (ecs none 0 0 ev0) 38)) x hx B (Nat.le_trans hB HM0.out.size) (hj.mod HM0.out hB (by simp));obtain⟨s,hs⟩:∃s,x.data.toList=s:=⟨_,rfl⟩;have hsl:s.length≤1000000:=(by rw[←hs,bytes_len];exact hx);rw[hs]at hrd ⊢;have HRd:=hide hrd;obtain⟨er,her⟩:∃er,(jread s).2.2=er:=⟨_,rfl⟩;have HEr:=hide her;clear hrd hs hx her hj;go_enter Tryz.func41,Tryz.ntmps41;go_wp2_with fail;refine HRd.out.mono ?_;rintro e0 w2 ⟨v,rfl,hv,hvi,m2⟩;rw[HEr.out];have HM2:=hide (HM0.out.trans m2 (by simp));have HR2:=hide (m2.blk HR0.out (by simp));obtain⟨xc,hxc⟩:∃xc,v.cells=xc:=⟨_,rfl⟩;have HXz:Hid (xc.size=5):=hide (by rw[←hxc];exact v.cells_size);have HX1:Hid (xc.all (·.oneCell')=true):=hide (by rw[←hxc];cases v;simp[JN.cells,Value.oneCell']);rw[hxc];have HXc:=hide hxc;have HVv:=hide hv;have HVi:=hide hvi;clear m2 hxc hv hvi;go_upto_region 2 with(refine wpList_store_open rfl 43 _ _ rfl rfl _ xc rfl rfl (by rw[HXz.out];kernel_rfl) (by rw[HXz.out];rfl) HX1.out ?_;intro w3 m3 b3 s3;have HM3:=hide (HM2.out.trans m3 (by simp));have HM23:=hide m3;have HR3:=hide (m3.blk HR2.out (by simp));have HX3:=hide b3.range;clear m3 b3 s3);by_cases h0:er=0
 ·obtain rfl:=h0;have hof:=eof_any w2 w3 v HVi.out HM23.out (by rw[HVv.out];intro h;exact jat67_le h HEr.out hsl);have HSd:Hid (said s=eof (jread s).1):=hide (by unfold said;rw[if_pos HEr.out]);rw[HXc.out,HVv.out]at hof;have HOf:=hide hof;clear hof;go_wp2_with (refine wpList_load_mid rfl 43 _ rfl w2.heap.size 0 rfl xc.toList _ HX3.out rfl rfl (by rw[Array.length_toList,HXz.out];kernel_rfl) ?_);refine HOf.out.mono ?_;rintro e0 w4 ⟨A,c,e,rfl,he,o4,l4,m4⟩;have HM4:=hide (HM3.out.trans m4 (by simp));have HR4:=hide (m4.blk HR3.out (by simp));have HO4:=hide (o4.base HM3.out.size);have HHe:=hide he;obtain⟨er,her⟩:∃er:Int,(if(eof (jread s).1).isSome then 0 else 2)=er:=⟨_,rfl⟩;rw[her];have HE2:=hide her;clear m4 o4 he her;obtain⟨cs,hcs⟩:∃cs,ecs A e.f.list.length c e=cs:=⟨_,rfl⟩;have HCs:=hide hcs;have HCz:Hid (cs.size=14):=hide (by rw[←hcs];rfl);have HC1:Hid (cs.all (·.oneCell')=true):=hide (by rw[←hcs];exact ecs_one _ _ _ _);unfold evval;rw[hcs];clear hcs;go_upto_region 5 with(refine wpList_store_open rfl 38 _ _ rfl rfl _ cs rfl rfl (by rw[HCz.out];kernel_rfl) (by rw[HCz.out];rfl) HC1.out ?_;intro w6 m6 b6 s6;have HM6:=hide (HM4.out.trans m6 (by simp));have HR6:=hide (m6.blk HR4.out (by simp));have HO6:=hide (HO4.out.mod m6 (by simp));have HX6:=hide b6.range;clear m6 b6 s6);go_wp2_with (first | (refine wpList_load_mid rfl 38 _ rfl w4.heap.size 0 rfl cs.toList _ HX6.out rfl rfl (by rw[Array.length_toList,HCz.out];kernel_rfl) ?_) | (refine wpList_store_whole rfl 38 _ _ rfl rfl w.heap.size 38 (ecs none 0 0 ev0) cs HR6.out rfl rfl (by rw[HCz.out];kernel_rfl) (by rw[HCz.out];rfl) HC1.out ?_;intro w9 m9 b9 s9;have HM9:=hide (HM6.out.trans m9 (by simp));have HB9:=hide b9;have HO9:=hide (HO6.out.mod m9 (by intro g o h;have:=HO6.out.ne HR6.out (by decide) g o h;simpa using this));clear m9 b9 s9));refine bodyPost_ret (results_cell_tmp_row rfl _ _ w.heap.size 38 cs _ rfl HB9.out Tryz.underlying38 rfl (by rw[HCz.out];kernel_rfl)) rfl ?_;have h:=HE2.out;have h2:=HHe.out;refine⟨A,c,e,?_,fun e' h3=> ?_,HO9.out,l4,HM9.out⟩
  ·rw[HSd.out,←HCs.out];cases hq:eof (jread s).1 with
   | none=>rw[hq]at h;obtain rfl:=h;rfl
   | some y=>rw[hq]at h;obtain rfl:=h;rfl
  ·rw[HSd.out]at h3;rw[h3]at h2;exact h2
 ·have hn:(er !=0)=true:=(by simpa using h0);have HNo:Hid (said s=none):=hide (by unfold said;rw[HEr.out,if_neg h0]);clear h0;go_wp2_with (refine wpList_store_whole rfl 38 _ _ rfl rfl w.heap.size 38 (ecs none 0 0 ev0) (ecs none 0 0 ev0) HR3.out rfl rfl (by kernel_rfl) rfl (by kernel_rfl) ?_;intro w9 m9 b9 s9;have HM9:=hide (HM3.out.trans m9 (by simp));have HB9:=hide b9;clear m9 b9 s9);refine bodyPost_ret (results_cell_tmp_row rfl _ _ w.heap.size 38 (ecs none 0 0 ev0) _ rfl HB9.out Tryz.underlying38 rfl (by kernel_rfl)) rfl ?_;exact⟨none,0,ev0,by rw[HNo.out];rfl,(fun e' h=>by rw[HNo.out]at h;cases h),ROwn.nil _ _,by simp[ev0,fr0],HM9.out⟩
theorem seqr_one (w:World) (x:ByteArray) (hx:x.size≤1000000) (B:Nat) (hB:B≤w.heap.size) (hj:JVars B w):Calls Tryz.prog 38 #[.string x] w (OnePost sread w x.data.toList):=by
 have HR0:=hide (Blk.new w 38 (ecs none 0 0 ev0));have HM0:=hide ((Mod.refl [] w).alloc (.cells (ecs none 0 0 ev0) 38));have hct:=cut1_any (w.alloc (.cells (ecs none 0 0 ev0) 38)) x hx;unfold cutV at hct;have HSr:=hide (sread_eq x.data.toList);cases hc:cut10 x.data.toList with
 | none=>
  rw[hc]at hct;have HNo:Hid (sread x.data.toList=none):=hide (by rw[HSr.out,hc];rfl);obtain⟨pa,pb,hp⟩:∃(pa:ByteArray) (pb:Bool),preV x.data.toList=.tuple #[.string pa,.bool pb]:=by
   unfold preV str
   split <;> exact⟨_,_,rfl⟩
  have hpf:=fun w'=>prefix1_any w' x hx;rw[hp]at hpf;have HCt:=hide hct;have HPf:=hide hpf;clear hct hpf hp hc hj;go_enter Tryz.func38,Tryz.ntmps38;go_wp2_with fail;refine HCt.out.mono ?_;rintro e0 w2 ⟨rfl,m2⟩;have HM2:=hide (HM0.out.trans m2 (by simp));have HR2:=hide (m2.blk HR0.out (by simp));clear m2;go_wp2_with fail;refine(HPf.out _).mono ?_;rintro e0 w3 ⟨rfl,rfl⟩;go_upto_region 4 with fail;go_wp2_with (refine wpList_store_whole rfl 38 _ _ rfl rfl w.heap.size 38 (ecs none 0 0 ev0) (ecs none 0 0 ev0) HR2.out rfl rfl (by kernel_rfl) rfl (by kernel_rfl) ?_;intro w9 m9 b9 s9;have HM9:=hide (HM2.out.trans m9 (by simp));have HB9:=hide b9;clear m9 b9 s9);refine bodyPost_ret (results_cell_tmp2_row rfl _ _ w.heap.size 38 (ecs none 0 0 ev0) _ rfl HB9.out Tryz.underlying38 rfl (by kernel_rfl)) rfl ?_;exact OnePost.no _ HNo.out HM9.out
 | some ab=>
  obtain⟨a,b⟩:=ab;rw[hc]at hct;have hsz:=congrArg List.length (cut10_some hc);rw[bytes_len]at hsz;simp only[List.length_append,List.length_cons]at hsz;obtain⟨qa,hqa⟩:∃q:ByteArray,(⟨a.toArray⟩:ByteArray)=q:=⟨_,rfl⟩;obtain⟨qb,hqb⟩:∃q:ByteArray,(⟨b.toArray⟩:ByteArray)=q:=⟨_,rfl⟩;have hqs:qa.size=a.length:=(by rw[←hqa];rfl);have hqd:qa.data.toList=a:=(by rw[←hqa]);have HQb:Hid (qb.data.toList=b):=hide (by rw[←hqb]);unfold str at hct;simp only[hqa,hqb]at hct;have HCt:=hide hct;have hpf:=fun w'=>prefix1_any w' qa (by omega);rw[hqd]at hpf;unfold preV str at hpf;by_cases h30:a.head? =some 30
  ·rw[if_pos h30]at hpf;have HSr2:Hid (sread x.data.toList=(said a.tail).map fun e=>(e,b)):=hide (by rw[HSr.out,hc];show(if a.head? =some 30 then _ else _)=_;rw[if_pos h30]);obtain⟨qt,hqt⟩:∃q:ByteArray,(⟨a.tail.toArray⟩:ByteArray)=q:=⟨_,rfl⟩;have hts:qt.size≤1000000:=by have:qt.size=a.tail.length:=(by rw[←hqt];rfl);rw[this,List.length_tail];omega
   have htd:qt.data.toList=a.tail:=(by rw[←hqt]);simp only[hqt]at hpf;have HPf:=hide hpf;have hsd:=fun w' (m:Mod [] w w')=>said_any w' qt hts B (Nat.le_trans hB m.size) (hj.mod m hB (by simp));rw[htd]at hsd;have HSd:=hide hsd;clear hct hpf hc hj hsz hqa hqb hqs hqd h30 hqt hts htd hsd;go_enter Tryz.func38,Tryz.ntmps38;go_wp2_with fail;refine HCt.out.mono ?_;rintro e0 w2 ⟨rfl,m2⟩;have HM2:=hide (HM0.out.trans m2 (by simp));have HR2:=hide (m2.blk HR0.out (by simp));clear m2;go_wp2_with fail;refine(HPf.out _).mono ?_;rintro e0 w2b ⟨rfl,rfl⟩;go_wp2_with fail;refine(HSd.out _ HM2.out).mono ?_;rintro e0 w3 ⟨A,c,e,rfl,he,o3,l3,m3⟩;have HM3:=hide (HM2.out.trans m3 (by simp));have HR3:=hide (m3.blk HR2.out (by simp));have HO3:=hide (o3.base HM2.out.size);have HHe:=hide he;clear m3 o3 he;obtain⟨ok,hok⟩:∃ok,(said a.tail).isSome=ok:=⟨_,rfl⟩;rw[hok];have HOk:=hide hok;clear hok;obtain⟨cs,hcs⟩:∃cs,ecs A e.f.list.length c e=cs:=⟨_,rfl⟩;have HCs:=hide hcs;have HCz:Hid (cs.size=14):=hide (by rw[←hcs];rfl);have HC1:Hid (cs.all (·.oneCell')=true):=hide (by rw[←hcs];exact ecs_one _ _ _ _);unfold evval;rw[hcs];clear hcs;go_upto_region 6 with(refine wpList_store_open rfl 38 _ _ rfl rfl _ cs rfl rfl (by rw[HCz.out];kernel_rfl) (by rw[HCz.out];rfl) HC1.out ?_;intro w6 m6 b6 s6;have HM6:=hide (HM3.out.trans m6 (by simp));have HR6:=hide (m6.blk HR3.out (by simp));have HO6:=hide (HO3.out.mod m6 (by simp));have HX6:=hide b6.range;clear m6 b6 s6);go_wp2_with (first | (refine wpList_load_mid rfl 38 _ rfl w3.heap.size 0 rfl cs.toList _ HX6.out rfl rfl (by rw[Array.length_toList,HCz.out];kernel_rfl) ?_) | (refine wpList_store_whole rfl 38 _ _ rfl rfl w.heap.size 38 (ecs none 0 0 ev0) cs HR6.out rfl rfl (by rw[HCz.out];kernel_rfl) (by rw[HCz.out];rfl) HC1.out ?_;intro w9 m9 b9 s9;have HM9:=hide (HM6.out.trans m9 (by simp));have HB9:=hide b9;have HO9:=hide (HO6.out.mod m9 (by intro g o h;have:=HO6.out.ne HR6.out (by decide) g o h;simpa using this));clear m9 b9 s9));refine bodyPost_ret (results_cell_tmp2_row rfl _ _ w.heap.size 38 cs _ rfl HB9.out Tryz.underlying38 rfl (by rw[HCz.out];kernel_rfl)) rfl ?_;rw[←HCs.out];refine OnePost.of _ _ HM9.out HO9.out l3 ?_;rw[HSr2.out];have h1:=HHe.out;have h2:=HOk.out;cases hq:said a.tail with
   | none=>rw[hq]at h2;exact h2.symm
   | some y=>rw[hq]at h2;exact⟨h2.symm,h1 y hq,HQb.out⟩
  ·rw[if_neg h30]at hpf;have HNo:Hid (sread x.data.toList=none):=hide (by rw[HSr.out,hc];show(if a.head? =some 30 then _ else _)=_;rw[if_neg h30]);have HPf:=hide hpf;clear hct hpf hc hj hsz hqa hqb hqs hqd h30;go_enter Tryz.func38,Tryz.ntmps38;go_wp2_with fail;refine HCt.out.mono ?_;rintro e0 w2 ⟨rfl,m2⟩;have HM2:=hide (HM0.out.trans m2 (by simp));have HR2:=hide (m2.blk HR0.out (by simp));clear m2;go_wp2_with fail;refine(HPf.out _).mono ?_;rintro e0 w3 ⟨rfl,rfl⟩;go_upto_region 4 with fail;go_wp2_with (refine wpList_store_whole rfl 38 _ _ rfl rfl w.heap.size 38 (ecs none 0 0 ev0) (ecs none 0 0 ev0) HR2.out rfl rfl (by kernel_rfl) rfl (by kernel_rfl) ?_;intro w9 m9 b9 s9;have HM9:=hide (HM2.out.trans m9 (by simp));have HB9:=hide b9;clear m9 b9 s9);refine bodyPost_ret (results_cell_tmp2_row rfl _ _ w.heap.size 38 (ecs none 0 0 ev0) _ rfl HB9.out Tryz.underlying38 rfl (by kernel_rfl)) rfl ?_;exact OnePost.no _ HNo.out HM9.out
theorem readseq_any (w:World) (s:ByteArray) (hs:s.size≤1000000) (B:Nat) (hB:B≤w.heap.size) (hj:JVars B w):Calls Tryz.prog 14 #[.string s] w (RdsPost sread w s.data.toList):=by have H:=hide (ereads_any w s (by omega) 38 srec sread sreads (fun args w=>by kernel_rfl) (fun w' x m hx=>seqr_one w' x (by omega) B (Nat.le_trans hB m.size) (hj.mod m hB (by simp))));clear hj;go_enter Tryz.func14,Tryz.ntmps14;go_wp2_with fail;refine H.out.mono ?_;rintro e0 w1 ⟨A,c,l,rfl,h1,h2,h3,m1⟩;go_wp2_with fail;refine bodyPost_ret (results_tmp3 rfl _ _ _) rfl ?_;exact⟨A,c,l,rfl,h1,h2,h3,m1⟩
end Go.Proofs.YtlfjhgamlkbofaaGreatDoor
namespace Go.Proofs.YtlfjhgamlkbofaaGreatDoor
open Go.RowKit
theorem r7same_any (w:World) (A B:Option Addr) (n m c d:Nat) (a b:Ev) (hr:Rngs w A n a.f.list) (hs:Rngs w B m b.f.list) (v:Bool) (hv:esame a b=v):
  Calls Tryz.prog 25 #[evval A n c a,evval B m d b] w (RPost w v):=by
 have HM:=hide (((Mod.refl [] w).alloc (.cells (ecs A n c a) 38)).alloc (.cells (ecs B m d b) 38));have HR:=hide (hr.new HM.out);have HS:=hide (hs.new HM.out);have HF:=hide (fun w' (h:Rngs w' A n a.f.list) (k:Rngs w' B m b.f.list) (q:Bool) (hq:fsame a.f b.f=q)=>rsame_any w' A B n m c d a.f b.f h k q hq);clear hr hs;obtain⟨k1,s1,t1,n1,m1,x1,f1⟩:=a;obtain⟨k2,s2,t2,n2,m2,x2,f2⟩:=b;unfold evval fval fcs at *;unfold ecs at *;dsimp only at *;by_cases h:k1=k2;rotate_left
 ·have hv2:v=false:=(by rw[←hv];unfold esame;simp[h]);subst hv2;have e1:(k1==k2)=false:=(by rw[beq_eq_false_iff_ne];omega);clear hv h;go_enter Tryz.func25,Tryz.ntmps25;go_wp2_with fail;go_ret;exact⟨rfl,HM.out⟩
 subst h;by_cases h:s1=s2;rotate_left
 ·have hv2:v=false:=(by rw[←hv];unfold esame;simp[h]);subst hv2;have e1:(s1==s2)=false:=(by rw[beq_eq_false_iff_ne];omega);clear hv h;go_enter Tryz.func25,Tryz.ntmps25;go_wp2_with fail;go_ret;exact⟨rfl,HM.out⟩
 subst h;by_cases h:t1=t2;rotate_left
 ·have hv2:v=false:=(by rw[←hv];unfold esame;simp[h]);subst hv2;have e1:((t1:Int)==(t2:Int))=false:=(by rw[beq_eq_false_iff_ne];omega);clear hv h;go_enter Tryz.func25,Tryz.ntmps25;go_wp2_with fail;go_ret;exact⟨rfl,HM.out⟩
 subst h;by_cases h:n1=n2;rotate_left
 ·have hv2:v=false:=(by rw[←hv];unfold esame;simp[h]);subst hv2;have e1:((n1:Int)==(n2:Int))=false:=(by rw[beq_eq_false_iff_ne];omega);clear hv h;go_enter Tryz.func25,Tryz.ntmps25;go_wp2_with fail;go_ret;exact⟨rfl,HM.out⟩
 subst h;by_cases h:m1=m2;rotate_left
 ·have hv2:v=false:=(by rw[←hv];unfold esame;simp[h]);subst hv2;have e1:((m1:Int)==(m2:Int))=false:=(by rw[beq_eq_false_iff_ne];omega);clear hv h;go_enter Tryz.func25,Tryz.ntmps25;go_wp2_with fail;go_ret;exact⟨rfl,HM.out⟩
 subst h;by_cases h:x1=x2;rotate_left
 ·have hv2:v=false:=(by rw[←hv];unfold esame;simp[h]);subst hv2;have e1:(x1.toList==x2.toList)=false:=(by exact toList_ne h);clear hv h;go_enter Tryz.func25,Tryz.ntmps25;go_wp2_with fail;go_ret;exact⟨rfl,HM.out⟩
 subst h;have HV:Hid (fsame f1 f2=v):=hide (by rw[←hv];unfold esame;simp);clear hv;go_enter Tryz.func25,Tryz.ntmps25;go_wp2_with fail;refine(HF.out _ HR.out HS.out v HV.out).mono ?_;rintro e0 w1 ⟨rfl,mm⟩;go_wp2_with fail;go_ret;exact⟨rfl,HM.out.trans mm (by simp)⟩
def evs (l:List EV):List Ev:=l.map EV.e
theorem EIn.at_ {w:World} {A:Option Addr} {l:List EV} (h:EIn w A l) {k:Nat} {x:EV} (hx:l[k]? =some x):∃g o,A=some ⟨g,o,none⟩∧g < w.heap.size∧w.rangeAt g (o+k * 14) x.cells:=by obtain⟨g,o,h1,h2,h3⟩:=h.els.at_ hx;exact⟨g,o,h1,h2,fun j v hv=>h3 j v hv⟩
def esz (e:Ev):Nat:=20+e.text.size+e.f.data.size+e.f.more.size+e.f.list.length
def essz (l:List Ev):Nat:=(l.map esz).sum
theorem essz_snoc (l:List Ev) (e:Ev):essz (l++ [e])=essz l+esz e:=by unfold essz;simp
theorem essz_take:∀(l:List Ev) (k:Nat),essz (l.take k)≤essz l
 | [],k=>by simp
 | e ::l,0=>by unfold essz;simp
 | e ::l,k+1=>by have:=essz_take l k;unfold essz at *;simp;rw[←List.map_take];exact this
theorem evs_take_snoc {l:List EV} {k:Nat} {x:EV} (h:l[k]? =some x):evs (l.take (k+1))=evs (l.take k)++ [x.e]:=by rw[take_snoc_of h];unfold evs;simp
theorem large_any (w:World) (A:Option Addr) (c:Nat) (l:List EV) (h:EIn w A l) (hb:essz (evs l)≤4611686018427387904) (v:Bool) (hv:decide (4096 < essz (evs l))=v):
  Calls Tryz.prog 17 #[.slice A l.length c] w (RPost w v):=by
 have HE:=hide h;have HB:=hide hb;have HV:=hide hv;have hll:=h.els.len;have HZ:Hid ((essz (evs (l.take 0)):Int)=0):=hide rfl;clear h hb hv;go_enter Tryz.func17,Tryz.ntmps17;go_wp2_with fail;go_loopw [3,7] (fun n i wr=>∃k:Nat,i=.int .i64 (k:Int)∧n=.int .i64 (essz (evs (l.take k)):Nat)∧k≤l.length∧Mod [] w wr) (fun _ i _=>l.length - (intOf i).toNat)
 case atStart=>exact⟨0,rfl,rfl,Nat.zero_le _,Mod.refl _ _⟩
 case round=>
  clear HZ;obtain⟨k,rfl,rfl,hk,hmr⟩:=hrel;have HMr:=hide hmr;clear hmr;by_cases hlt:k < l.length
  ·obtain⟨x,hx⟩:∃x,l[k]? =some x:=⟨_,List.getElem?_eq_getElem hlt⟩;obtain⟨g,o,rfl,hg,hcx⟩:=HE.out.at_ hx;have hsn:essz (evs (l.take (k+1)))=essz (evs (l.take k))+esz x.e:=(by rw[evs_take_snoc hx,essz_snoc]);have hle:=Nat.le_trans (essz_take (evs l) (k+1)) HB.out;have het:(evs l).take (k+1)=evs (l.take (k+1)):=(by unfold evs;rw[List.map_take]);rw[het]at hle;obtain⟨⟨k1,s1,t1,n1,m1,tx,⟨fk,fa,fb,fc,fin,fd,fm,fl⟩⟩,xA,xc⟩:=x;obtain⟨s0,hs0⟩:∃s0,essz (evs (l.take k))=s0:=⟨_,rfl⟩;rw[hs0]at hsn ⊢;obtain⟨ln,hln⟩:∃ln,fl.length=ln:=⟨_,rfl⟩;unfold esz at hsn;dsimp only at hsn;rw[hln]at hsn;have HSn:=hide hsn;rw[hsn]at hle;have hcell:∀(j:Nat) (u:Value),(EV.cells ⟨⟨k1,s1,t1,n1,m1,tx,⟨fk,fa,fb,fc,fin,fd,fm,fl⟩⟩,xA,xc⟩)[j]? =some u→∀i:Fam (Mod [] wr),i.w.cell? ⟨g,o+k * 14+j,none⟩=some u:=fun j u hu i=>(HMr.out.trans i.ok (by simp)).cell (p:=⟨g,o+k * 14+j,none⟩) hg (by simp) |>.trans (hcx j u hu);have y5:∀i:Fam (Mod [] wr),i.w.cell? ⟨g,o+k * 14+5,none⟩=some (.string tx):=hcell 5 _ rfl;have y11:∀i:Fam (Mod [] wr),i.w.cell? ⟨g,o+k * 14+11,none⟩=some (.string fd):=hcell 11 _ rfl;have y12:∀i:Fam (Mod [] wr),i.w.cell? ⟨g,o+k * 14+12,none⟩=some (.string fm):=hcell 12 _ rfl;have y13:∀i:Fam (Mod [] wr),i.w.cell? ⟨g,o+k * 14+13,none⟩=some (.slice xA ln xc):=hcell 13 _ (by rw[←hln];rfl);clear hcell hcx hs0 hln hsn hx het;go_upto_region 5 with fail;refine wp_region_plan (Mod [] wr) [] [] [0,1,2,3,4,5,6,7,8,9,10,11,12,13,14,15,16,17,18,19,20,21,22,23,24,25,26,27,28,29,30,31,32,33] (by kernel_rfl) (by kernel_rfl) (fun _ _ _ _ _ h=>h) ((Mod.refl [] wr).drew) ?_;show wpQuiet _ _ _ _ _ _;simp only[gd];(repeat (go_big_quiet_step (fail)));refine wpQuiet_nil ?_;clear y5 y11 y12 y13;go_wp2_with fail;go_roundw
   case rel=>exact⟨k+1,by go_num,by rw[HSn.out];go_num,hlt,HMr.out.trans (Mod.refl [] wr).drew (by simp)⟩
   case measure=>simp[intOf];omega
  ·have hke:k=l.length:=(by omega);have hle:=HB.out;have hval:decide (4096 < essz (evs (l.take k)))=v:=(by rw[hke,List.take_length];exact HV.out);have hlk:essz (evs (l.take k))≤4611686018427387904:=(by rw[hke,List.take_length];exact hle);obtain⟨s0,hs0⟩:∃s0,essz (evs (l.take k))=s0:=⟨_,rfl⟩;rw[hs0]at hval hlk ⊢;have hvi:decide ((4096:Int) < (s0:Int))=v:=(by rw[←hval];exact decide_eq_decide.2 (by omega));have HMr2:=hide (HMr.out);have HVi:=hide hvi;clear hs0 hval hke hle hvi;go_wp2_with fail;go_ret;exact⟨by rw[←HVi.out];rfl,HMr2.out⟩
end Go.Proofs.YtlfjhgamlkbofaaGreatDoor
namespace Go.Proofs.YtlfjhgamlkbofaaGreatDoor
open Go.RowKit Js
theorem ba_size0 {t:ByteArray} (h:t.size=0):t=⟨#[]⟩:=by obtain⟨a⟩:=t;have:a.size=0:=h;rw[Array.eq_empty_of_size_eq_zero this]
theorem jn_of {d:Nat} {v:JV} (h:jmay d v=true) (hb:bnum v=false):v=jn (gnum v):=by unfold gnum;rw[hb];obtain⟨k,i,t,l,ks⟩:=v;rw[jmay]at h;replace hb:(!(decide (k=3) && (decide (0≤i) && decide (i≤4611686018427387903))))=false:=hb;simp only[Bool.not_eq_false',Bool.and_eq_true,decide_eq_true_eq]at hb;obtain⟨rfl,h1,h2⟩:=hb;simp only[Bool.and_eq_true,Bool.or_eq_true,decide_eq_true_eq]at h;obtain⟨⟨⟨⟨⟨⟨_,_⟩,_⟩,h4⟩,h5⟩,h6⟩,h7⟩:=h;rw[if_neg (by decide)]at h6;have ht:t=⟨#[]⟩:=ba_size0 (by rcases h4 with h | h;exact absurd h (by decide);exact h);have hl:l= []:=(by rcases h5 with(h | h) | h;exact absurd h (by decide);exact absurd h (by decide);simpa using h);have hk:ks= []:=(by simpa using h6);subst ht hl hk;unfold jn;simp only[Bool.false_eq_true,if_false,JV.i];rw[show((i.toNat:Nat):Int)=i by omega]
theorem jt_of {d:Nat} {v:JV} (h:jmay d v=true) (hb:bwords v=false):v=jt v.t:=by obtain⟨k,i,t,l,ks⟩:=v;rw[jmay]at h;replace hb:(!decide (k=4))=false:=hb;simp only[Bool.not_eq_false',decide_eq_true_eq]at hb;subst hb;simp only[Bool.and_eq_true,Bool.or_eq_true,decide_eq_true_eq]at h;obtain⟨⟨⟨⟨⟨⟨_,_⟩,h3⟩,_⟩,h5⟩,h6⟩,h7⟩:=h;rw[if_neg (by decide)]at h6;have hi:i=0:=(by rcases h3 with h | h;exact absurd h (by decide);exact h);have hl:l= []:=(by rcases h5 with(h | h) | h;exact absurd h (by decide);exact absurd h (by decide);simpa using h);have hk:ks= []:=(by simpa using h6);subst hi hl hk;rfl
theorem jb_of {d:Nat} {v:JV} (h:jmay d v=true) (hb:btruth v=false):v=jb (gtruth v):=by obtain⟨k,i,t,l,ks⟩:=v;rw[jmay]at h;replace hb:(!decide (k=2) && !decide (k=1))=false:=hb;simp only[Bool.and_eq_false_iff,Bool.not_eq_false',decide_eq_true_eq]at hb;simp only[Bool.and_eq_true,Bool.or_eq_true,decide_eq_true_eq]at h;obtain⟨⟨⟨⟨⟨⟨_,_⟩,h3⟩,h4⟩,h5⟩,h6⟩,h7⟩:=h;have hkk:k=1∨k=2:=(by omega);rw[if_neg (by omega)]at h6;have hi:i=0:=(by omega);have ht:t=⟨#[]⟩:=ba_size0 (by omega);have hl:l= []:=(by rcases h5 with(h | h) | h;omega;omega;simpa using h);have hk:ks= []:=(by simpa using h6);subst hi ht hl hk;rcases hkk with rfl | rfl <;> rfl
theorem jlist_of {d:Nat} {v:JV} (h:jmay d v=true) (hb:v.k=5):v=.mk 5 0 ⟨#[]⟩ v.l []:=by obtain⟨k,i,t,l,ks⟩:=v;rw[jmay]at h;simp only[JV.k]at hb;subst hb;simp only[Bool.and_eq_true,Bool.or_eq_true,decide_eq_true_eq]at h;obtain⟨⟨⟨⟨⟨⟨_,_⟩,h3⟩,h4⟩,h5⟩,h6⟩,h7⟩:=h;rw[if_neg (by decide)]at h6;have hi:i=0:=(by rcases h3 with h | h;exact absurd h (by decide);exact h);have ht:t=⟨#[]⟩:=ba_size0 (by rcases h4 with h | h;exact absurd h (by decide);exact h);have hk:ks= []:=(by simpa using h6);subst hi ht hk;rfl
theorem jobj_of {d:Nat} {v:JV} (h:jmay d v=true) (hb:v.k=6):v=.mk 6 0 ⟨#[]⟩ v.l v.ks∧v.ks.length=v.l.length:=by obtain⟨k,i,t,l,ks⟩:=v;rw[jmay]at h;simp only[JV.k]at hb;subst hb;simp only[Bool.and_eq_true,Bool.or_eq_true,decide_eq_true_eq]at h;obtain⟨⟨⟨⟨⟨⟨_,_⟩,h3⟩,h4⟩,h5⟩,h6⟩,h7⟩:=h;have hi:i=0:=(by rcases h3 with h | h;exact absurd h (by decide);exact h);have ht:t=⟨#[]⟩:=ba_size0 (by rcases h4 with h | h;exact absurd h (by decide);exact h);subst hi ht;exact⟨rfl,(show ks.length=l.length by simpa using h6)⟩
theorem jmay_mem {d:Nat} {v x:JV} (h:jmay d v=true) (hx:x∈v.l):jmay (d - 1) x=true:=by obtain⟨k,i,t,l,ks⟩:=v;rw[jmay,Bool.and_eq_true]at h;exact jmays_mem h.2 hx
theorem two_of {l:List JV} (h:l.length=2):l= [l.getD 0 jv0,l.getD 1 jv0]:=by
 match l,h with
 | [a,b],_=>rfl
theorem eight_of {l:List JV} (h:l.length=8):l= [l.getD 0 jv0,l.getD 1 jv0,l.getD 2 jv0,l.getD 3 jv0,l.getD 4 jv0,l.getD 5 jv0,l.getD 6 jv0,l.getD 7 jv0]:=by
 match l,h with
 | [a,b,c,d,e,f,g,h],_=>rfl
theorem six_of {l:List JV} (h:l.length=6):l= [l.getD 0 jv0,l.getD 1 jv0,l.getD 2 jv0,l.getD 3 jv0,l.getD 4 jv0,l.getD 5 jv0]:=by
 match l,h with
 | [a,b,c,d,e,f],_=>rfl
theorem seven_of {l:List JV} (h:l.length=7):l= [l.getD 0 jv0,l.getD 1 jv0,l.getD 2 jv0,l.getD 3 jv0,l.getD 4 jv0,l.getD 5 jv0,l.getD 6 jv0]:=by
 match l,h with
 | [a,b,c,d,e,f,g],_=>rfl
theorem getD_mem {l:List JV} {i:Nat} (h:i < l.length):l.getD i jv0∈l:=by simp[h]
theorem jr_of {d:Nat} {x:JV} (h:jmay d x=true) (hp:bpair x=false) (h0:bnum (jat x 0)=false) (h1:bnum (jat x 1)=false):x=jr (gpair x):=by unfold bpair at hp;simp only[Bool.not_eq_false',Bool.and_eq_true,decide_eq_true_eq]at hp;have e:=jlist_of h hp.1;have e0:=jn_of (jmay_mem h (getD_mem (i:=0) (by omega))) h0;have e1:=jn_of (jmay_mem h (getD_mem (i:=1) (by omega))) h1;have e2:=two_of hp.2;unfold jr gpair jat;rw[←e0,←e1,←e2];exact e
theorem jrs_of {d:Nat} :∀ {l:List JV},(∀x∈l,jmay d x=true)→bpairs l=false→l.map (fun x=>jr (gpair x))=l∧bshape l=false
 | [],_,_=>⟨rfl,rfl⟩
 | x ::l,h,hb=>by
  unfold bpairs at hb
  rw[List.any_cons,Bool.or_eq_false_iff,Bool.or_eq_false_iff,Bool.or_eq_false_iff]at hb
  obtain⟨⟨b1,b2,b3⟩,b4⟩:=hb
  obtain⟨i1,i2⟩:=jrs_of (l:=l) (fun y hy=>h y (by simp[hy])) b4
  refine⟨?_,?_⟩
  ·rw[List.map_cons,i1,←jr_of (h x (by simp)) b1 b2 b3]
  ·unfold bshape at i2 ⊢
   rw[List.any_cons,b1,i2];rfl
theorem jfr_of {d:Nat} {v:JV} (h:jmay d v=true) (hb:bframe v=false):v=jfr (gframe v)∧wframe v=false∧fmay (gframe v)=true:=by
 unfold bframe at hb;simp only[Bool.or_eq_false_iff,Bool.not_eq_false']at hb;obtain⟨hw,⟨⟨⟨⟨⟨⟨⟨b0,b1⟩,b2⟩,b3⟩,b4⟩,b5⟩,b6⟩,b7⟩,hm⟩:=hb;refine⟨?_,hw,hm⟩;unfold wframe at hw;simp only[Bool.not_eq_false',Bool.and_eq_true,decide_eq_true_eq]at hw;obtain⟨e,hl⟩:=jobj_of h hw.1;rw[hw.2]at hl e;have hl8:v.l.length=8:=hl.symm;have hmem:∀i,i < 8→jmay (d - 1) (v.l.getD i jv0)=true:=fun i hi=>jmay_mem h (getD_mem (by omega));unfold jat at b0 b1 b2 b3 b4 b5 b6 b7;have e0:=jn_of (hmem 0 (by omega)) b0;have e1:=jn_of (hmem 1 (by omega)) b1;have e2:=jn_of (hmem 2 (by omega)) b2;have e3:=jn_of (hmem 3 (by omega)) b3;have e4:=jb_of (hmem 4 (by omega)) b4;have e5:=jt_of (hmem 5 (by omega)) b5;have e6:=jt_of (hmem 6 (by omega)) b6;unfold branges at b7;simp only[Bool.or_eq_false_iff,Bool.not_eq_false',decide_eq_true_eq]at b7;have e7:=jlist_of (hmem 7 (by omega)) b7.1;obtain⟨r1,r2⟩:=jrs_of (d:=d - 1 - 1) (fun x hx=>jmay_mem (hmem 7 (by omega)) hx) b7.2;have e8:JV.mk 5 0 ⟨#[]⟩ ((granges (v.l.getD 7 jv0)).map jr) []=v.l.getD 7 jv0:=by
  unfold granges;rw[r2,if_neg (by decide),List.map_map]
  conv=>rhs;rw[e7]
  congr 1
 unfold jfr gframe jat;simp only;rw[←e0,←e1,←e2,←e3,←e4,←e5,←e6,e8,←eight_of hl8];exact e
theorem eof_eq {v:JV} {e:Ev} (h:eof v=some e):evalue e=v∧emay e=true∧jmay 8 v=true:=by
 have hme:=eof_may h;refine⟨?_,hme,?_⟩;all_goals
  unfold eof at h
  split at h
  ·cases h
  rename_i hw
  replace hw:wev v=false:=by simpa using hw
  unfold wev at hw
  simp only[Bool.not_eq_false',Bool.and_eq_true,decide_eq_true_eq]at hw
  obtain⟨⟨⟨⟨hk,hj⟩,h6⟩,ht⟩,h7⟩:=hw
 ·split at h
  ·cases h
  rename_i hb;simp only[Bool.or_eq_true,not_or,Bool.not_eq_true]at hb;have hb:=hb.1;cases h;obtain⟨e1,hl⟩:=jobj_of hj hk;unfold bev at hb;simp only[Bool.or_eq_false_iff]at hb;obtain⟨⟨⟨⟨⟨⟨b0,b1⟩,b2⟩,b3⟩,b4⟩,b5⟩,b6⟩:=hb;have hmem:∀i,i < v.l.length→jmay (8 - 1) (v.l.getD i jv0)=true:=fun i hi=>jmay_mem hj (getD_mem hi);unfold jat at b0 b1 b2 b3 b4 b5;have e0:=jn_of (hmem 0 (by omega)) b0;have e1':=jn_of (hmem 1 (by omega)) b1;have e2:=jn_of (hmem 2 (by omega)) b2;have e3:=jn_of (hmem 3 (by omega)) b3;have e4:=jn_of (hmem 4 (by omega)) b4;have e5:=jt_of (hmem 5 (by omega)) b5;have f0:((gnum (v.l.getD 0 jv0):Nat):Int).toNat=gnum (v.l.getD 0 jv0):=Int.toNat_natCast _;have f2:((gnum (v.l.getD 2 jv0):Nat):Int).toNat=gnum (v.l.getD 2 jv0):=Int.toNat_natCast _;by_cases hg:v.l.length=6
  ·have hgo:goesOn v=false:=(by unfold goesOn;simp[hg]);have hks:v.ks=ekeys:=(by rw[←ht,List.take_of_length_le (by omega)]);have hbare:(gev v).bare=true:=(by rw[Ev.bare_iff];unfold gev;rw[hgo];rfl);unfold evalue;rw[hbare];unfold gev jat;simp only[f0,f2,if_true,List.append_nil];rw[←e0,←e1',←e2,←e3,←e4,←e5,←six_of hg,←hks];exact e1.symm
  ·have hg:v.l.length=7:=(by omega);have hgo:goesOn v=true:=(by unfold goesOn;simp[hg]);rw[hgo,Bool.true_and,Bool.or_eq_false_iff]at b6;obtain⟨b6,b7⟩:=b6;obtain⟨g1,g2,g3⟩:=jfr_of (hmem 6 (by omega)) b6;have hks:v.ks=ekeys++ [fkey]:=(by simp only[Bool.not_eq_false',decide_eq_true_eq]at b7;have hkl:v.ks.length=7:=(by omega);rw[←List.take_append_drop 6 v.ks,ht];congr 1;rw[List.drop_eq_getElem_cons (by omega),List.drop_of_length_le (by omega)];rw[←b7];simp[hkl]);have hfr:(gev v).f=gframe (v.l.getD 6 jv0):=(by unfold gev;rw[hgo];simp only[if_true];show(if wframe (v.l.getD 6 jv0)then fr0 else gframe (jat v 6))=_;rw[g2];rfl);have hbare:(gev v).bare=false:=by
    cases hq:(gev v).bare with
    | false=>rfl
    | true=>rw[Ev.bare_iff,hfr]at hq;rw[hq,fmay0]at g3;cases g3
   unfold evalue;rw[hbare,hfr,←g1];unfold gev jat;simp only[f0,f2,Bool.false_eq_true,if_false,List.cons_append,List.nil_append];rw[←e0,←e1',←e2,←e3,←e4,←e5,←seven_of hg];have hks':ekeys++ [fkey]=v.ks:=hks.symm;rw[hks'];exact e1.symm
 ·exact hj
def awX:Ev:=⟨3,0,1,5,0,⟨#[]⟩,fr0⟩
def awY:Ev:=⟨8,0,0,0,0,⟨#[97,10]⟩,⟨8,4,0,0,true,⟨#[104,105]⟩,⟨#[]⟩,[]⟩⟩
theorem awX_may:emay awX=true:=by decide+kernel
theorem awY_may:emay awY=true:=by decide+kernel
theorem aw0_may:emay ev0=false:=by decide+kernel
theorem aw_ne:esame awX awY=false:=by decide+kernel
theorem aw_same (e:Ev):esame e e=true:=esame_iff.2 rfl
def awFirst:List UInt8:= [30,123,34,107,105,110,100,34,58,51,44,34,116,105,109,101,34,58,49,44,34,115,112,97,99,101,34,58,48,44,34,110,117,109,34,58,53,44,34,109,97,110,121,34,58,48,44,34,116,101,120,116,34,58,34,34,125,10]
theorem aw_bin:eone awX= [7,3,1,0,5,0,0,0]:=by decide+kernel
def awT:List UInt8:=srec awX++ srec awY
theorem awT_flat:awT= [awX,awY].flatMap srec:=by unfold awT;simp
theorem aw_both:∀e∈ [awX,awY],emay e=true:=by
 intro e h;rcases List.mem_cons.1 h with rfl | h
 ·exact awX_may
 ·rw[List.mem_singleton.1 h];exact awY_may
theorem aw_one:∀e∈ [awX],emay e=true:=fun e h=>by rw[List.mem_singleton.1 h];exact awX_may
theorem aw_rbin:rtell eread (eone awX)=([awX],0,0):=by have:=rtell_back ereads [awX] aw_one;simpa using this
theorem aw_rseq:rtell sread awT=([awX,awY],0,0):=by rw[awT_flat];exact rtell_back sreads _ aw_both
theorem aw_bad7:rtell eread [7]=([],0,2):=by rw[rtell_no (rall_bad (by simp) (Option.isNone_iff_eq_none.1 (show(eread [7]).isNone=true by decide+kernel)))];rfl
theorem aw_badr:rtell sread [30,123,125]=([],0,2):=by rw[rtell_no (rall_bad (by simp) (Option.isNone_iff_eq_none.1 (show(sread [30,123,125]).isNone=true by decide+kernel)))];rfl
theorem aw_rbin7:rtell eread (eone awX++ [7])=([],8,2):=by have:=rtell_app ereads [awX] aw_one [7];rw[aw_bad7,if_neg (by decide)]at this;have e: [awX].flatMap eone=eone awX:=(by simp);rw[e]at this;rw[this,aw_bin];rfl
theorem aw_rseqr:rtell sread (awT++ [30,123,125])=([],(awT.length:Int),2):=by have:=rtell_app sreads [awX,awY] aw_both [30,123,125];rw[aw_badr,if_neg (by decide),←awT_flat]at this;rw[this];simp
theorem awT_len:58 < awT.length∧awT.length≤400:=by decide+kernel
theorem aw_tbin (A:Option Addr) (c:Nat):allTold eone [⟨awX,A,c⟩]=.tuple #[str [7,3,1,0,5,0,0,0],.int .i64 0]:=by rw[allTold_yes (by unfold mayE;simp[awX_may])];unfold outE;simp[aw_bin]
theorem aw_tseq (A B:Option Addr) (c d:Nat):allTold srec [⟨awX,A,c⟩,⟨awY,B,d⟩]=.tuple #[str awT,.int .i64 0]:=by rw[allTold_yes (by unfold mayE;simp[awX_may,awY_may])];unfold outE awT;simp
theorem aw_tno (A:Option Addr) (c:Nat):allTold eone [⟨ev0,A,c⟩]=.tuple #[str [],.int .i64 2]:=allTold_no (by unfold mayE;simp[aw0_may])
def evX:EV:=⟨awX,none,0⟩
def evY:EV:=⟨awY,none,0⟩
def ev00:EV:=⟨ev0,none,0⟩
def cX:Array Value:=ecs none 0 0 awX
def cY:Array Value:=ecs none 0 0 awY
def c0:Array Value:=ecs none 0 0 ev0
def awS:ByteArray:=⟨#[7,3,1,0,5,0,0,0]⟩
def awD:ByteArray:=⟨awT.toArray⟩
theorem rngs_none (w:World) (A:Option Addr):Rngs w A 0 []:=⟨rfl,Nat.zero_le _,.inl rfl⟩
theorem EIn.blk {w:World} {b:Nat} {l:List EV} (h:Blk w b 38 (l.flatMap EV.cells).toArray) (hl:l.length≤1000) (hr:∀x∈l,x.e.f.list= []):EIn w (some ⟨b,0,none⟩) l:=by
 refine⟨⟨by omega,.inr ⟨b,0,rfl,h.lt,fun i x hx j u hu=> ?_⟩⟩,fun x hx=> ?_⟩
 ·have hj:j < 14:=(List.getElem?_eq_some_iff.1 hu).1;have h2:=(h.cell (i * 14+j)).trans ((List.getElem?_toArray).trans ((flat_get EV.cells 14 (fun _=>rfl) l i j x hx hj).trans hu));rw[Nat.zero_add];exact h2
 ·rw[hr x hx];exact rngs_none _ _
theorem list_X:∀x∈ [evX],x.e.f.list= []:=fun x h=>by rw[List.mem_singleton.1 h];rfl
theorem list_0:∀x∈ [ev00],x.e.f.list= []:=fun x h=>by rw[List.mem_singleton.1 h];rfl
theorem list_XY:∀x∈ [evX,evY],x.e.f.list= []:=fun x h=>by
 rcases List.mem_cons.1 h with rfl | h
 ·rfl
 ·rw[List.mem_singleton.1 h];rfl
theorem awk_bin (w:World) (b:Nat) (hb:Blk w b 38 cX):Calls Tryz.prog 18 #[.slice (some ⟨b,0,none⟩) 1 1] w fun r w'=>r=.returned (.tuple #[.string awS,.int .i64 0])∧Mod [] w w':=by have h:=bin_any w (some ⟨b,0,none⟩) 1 [evX] (EIn.blk hb (by simp) list_X) (by simp);have e:allTold eone [evX]=.tuple #[.string awS,.int .i64 0]:=aw_tbin none 0;rw[e]at h;exact h
theorem awk_bin0 (w:World) (b:Nat) (hb:Blk w b 38 c0):Calls Tryz.prog 18 #[.slice (some ⟨b,0,none⟩) 1 1] w fun r w'=>r=.returned (.tuple #[.string ⟨#[]⟩,.int .i64 2])∧Mod [] w w':=by have h:=bin_any w (some ⟨b,0,none⟩) 1 [ev00] (EIn.blk hb (by simp) list_0) (by simp);have e:allTold eone [ev00]=.tuple #[.string ⟨#[]⟩,.int .i64 2]:=aw_tno none 0;rw[e]at h;exact h
theorem awk_seq (w:World) (b:Nat) (hb:Blk w b 38 (cX++ cY)) (B:Nat) (hB:B≤w.heap.size) (hj:JVars B w):Calls Tryz.prog 20 #[.slice (some ⟨b,0,none⟩) 2 2] w fun r w'=>r=.returned (.tuple #[.string awD,.int .i64 0])∧Mod [] w w':=by have h:=seq_any w (some ⟨b,0,none⟩) 2 [evX,evY] (EIn.blk hb (by simp) list_XY) (by simp) B hB hj;have e:allTold srec [evX,evY]=.tuple #[.string awD,.int .i64 0]:=aw_tseq none none 0 0;rw[e]at h;exact h
def AwRead (w:World) (n:Nat) (l:List Ev) (r:Ending) (w':World):Prop:=∃(A:Option Addr) (c:Nat) (m:List EV),r=.returned (.tuple #[.slice A n c,.int .i64 0,.int .i64 0])∧EIn w' A m∧m.map EV.e=l∧Mod [] w w'
def AwBad (w:World) (n:Nat) (r:Ending) (w':World):Prop:=∃(A:Option Addr) (c k:Nat),r=.returned (.tuple #[.slice A k c,.int .i64 (n:Int),.int .i64 2])∧Mod [] w w'
theorem aw_read {R:One} {w:World} {s:List UInt8} {l:List Ev} {n:Nat} (hn:l.length=n) (h:rtell R s=(l,0,0)) (hs:s.length≤1000) {r:Ending} {w':World} (hp:RdsPost R w s r w'):AwRead w n l r w':=by
 subst hn;obtain⟨A,c,m,rfl,hm,ho,hl,mm⟩:=hp;rw[h]at hm ⊢;have e:l.length=m.length:=by have:=congrArg List.length hm;simpa using this.symm
 exact⟨A,c,m,by rw[e],ho.ein (by omega),hm,mm⟩
theorem aw_bad {R:One} {w:World} {s:List UInt8} {n:Nat} (h:rtell R s=([],(n:Int),2)) {r:Ending} {w':World} (hp:RdsPost R w s r w'):AwBad w n r w':=by obtain⟨A,c,m,rfl,hm,ho,hl,mm⟩:=hp;rw[h];exact⟨A,c,m.length,rfl,mm⟩
theorem awD_list:awD.data.toList=awT:=by unfold awD;simp
theorem awD_size:58 < awD.size∧awD.size≤400:=awT_len
theorem awk_rbin (w:World):Calls Tryz.prog 12 #[.string awS] w (AwRead w 1 [awX]):=by refine(readbin_any w awS (by decide)).mono fun r w' h=>aw_read (l:= [awX]) rfl ?_ (by decide) h;have:=aw_rbin;rw[aw_bin]at this;exact this
theorem awk_rbin7 (w:World):Calls Tryz.prog 12 #[.string (awS++ ⟨#[7]⟩)] w (AwBad w 8):=by refine(readbin_any w _ (by decide+kernel)).mono fun r w' h=>aw_bad ?_ h;have e:(awS++ ⟨#[7]⟩).data.toList=eone awX++ [7]:=(by rw[aw_bin];simp[awS]);rw[e];exact aw_rbin7
theorem awk_rseq (w:World) (B:Nat) (hB:B≤w.heap.size) (hj:JVars B w):Calls Tryz.prog 14 #[.string awD] w (AwRead w 2 [awX,awY]):=by
 refine(readseq_any w awD (by have:=awD_size;omega) B hB hj).mono fun r w' h=>aw_read (l:= [awX,awY]) rfl ?_ ?_ h
 ·rw[awD_list];exact aw_rseq
 ·rw[awD_list];have:=awT_len;omega
theorem awk_rseqr (w:World) (B:Nat) (hB:B≤w.heap.size) (hj:JVars B w):Calls Tryz.prog 14 #[.string (awD++ ⟨#[30,123,125]⟩)] w (AwBad w awD.size):=by refine(readseq_any w _ (by rw[ByteArray.size_append];have:=awD_size;have:(⟨#[30,123,125]⟩:ByteArray).size=3:=rfl;omega) B hB hj).mono fun r w' h=>aw_bad ?_ h;have e:(awD++ ⟨#[30,123,125]⟩).data.toList=awT++ [30,123,125]:=(by simp[awD]);rw[e];exact aw_rseqr
theorem awk_extract:awD.extract 0 58=⟨awFirst.toArray⟩:=by decide+kernel
theorem evz:(Tryz.prog.info? 38).map (fun i=>(i.zero,i.size))=some (some (.agg (ecs none 0 0 ev0)),14):=by kernel_rfl
theorem ev_one {l:List EV} {a:Ev} (h:l.map EV.e= [a]):∃x,l= [x]∧x.e=a:=by
 cases l with
 | nil=>simp at h
 | cons x r=>cases r with
  | nil=>exact⟨x,rfl,by simpa using h⟩
  | cons y r=>simp at h
theorem ev_two {l:List EV} {a b:Ev} (h:l.map EV.e= [a,b]):∃x y,l= [x,y]∧y.e=b:=by
 cases l with
 | nil=>simp at h
 | cons x r=>cases r with
  | nil=>simp at h
  | cons y r=>cases r with
   | nil=>simp at h;exact⟨x,y,rfl,h.2⟩
   | cons z r=>simp at h
theorem awake_any (w:World) (B:Nat) (hB:B≤w.heap.size) (hj:JVars B w):Calls Tryz.prog 11 #[] w (RPost w true):=by
 have HJ:=hide (fun w' (m:Mod [] w w')=>hj.mod m hB (by simp));have HBz:=hide (fun w' (m:Mod [] w w')=>Nat.le_trans hB m.size);have hds:=awD_size;have HDs:=hide hds;clear hj hB hds;go_enter Tryz.func11,Tryz.ntmps11;go_upto_region 2 with(first | (refine wpList_built rfl 38 _ rfl _ rfl _ rfl cX (by kernel_rfl) ?_) | (refine wpList_store_open rfl 38 _ _ rfl rfl _ cX rfl rfl (by kernel_rfl) rfl (by kernel_rfl) ?_;intro w1 m1 b1 s1;have HM1:=hide m1;have HX1:=hide b1;clear m1 b1 s1));go_upto_region 3 with(first | (refine wpList_built rfl 38 _ rfl _ rfl _ rfl cY (by kernel_rfl) ?_) | (refine wpList_store_open rfl 38 _ _ rfl rfl _ cY rfl rfl (by kernel_rfl) rfl (by kernel_rfl) ?_;intro w2 m2 b2 s2;have HM2:=hide (HM1.out.trans m2 (by simp));have HX2:=hide (m2.blk HX1.out (by simp));have HY2:=hide b2;clear m2 b2 s2));go_wp2_with (first | (refine wpList_load_mid rfl 38 _ rfl w.heap.size 0 rfl cX.toList _ HX2.out.range rfl rfl (by kernel_rfl) ?_) | (refine wpList_laid rfl 23 38 1 _ rfl _ rfl Tryz.underlying23 _ 14 evz (by decide) (by decide) [(0,.agg cX.toList.toArray)] rfl cX (by kernel_rfl) ?_;intro w3 m3 b3 s3;have HM3:=hide (HM2.out.trans m3 (by simp));have HX3:=hide (m3.blk HX2.out (by simp));have HY3:=hide (m3.blk HY2.out (by simp));have HB3:=hide b3;clear m3 b3 s3));refine(awk_bin w3 _ HB3.out).mono ?_;rintro e0 w4 ⟨rfl,m4⟩;have HM4:=hide (HM3.out.trans m4 (by simp));have HX4:=hide (m4.blk HX3.out (by simp));have HY4:=hide (m4.blk HY3.out (by simp));clear m4;go_wp2_with fail;refine(awk_rbin w4).mono ?_;rintro e0 w5 ⟨A1,c1,l1,rfl,h1,e1,m5⟩;have HM5:=hide (HM4.out.trans m5 (by simp));have HX5:=hide (m5.blk HX4.out (by simp));have HY5:=hide (m5.blk HY4.out (by simp));have HE1_5:=hide h1;have HL1:=hide e1;clear h1 e1;clear m5;go_wp2_with (first | (refine wpList_load_mid rfl 38 _ rfl w.heap.size 0 rfl cX.toList _ HX5.out.range rfl rfl (by kernel_rfl) ?_) | (refine wpList_load_mid rfl 38 _ rfl w1.heap.size 0 rfl cY.toList _ HY5.out.range rfl rfl (by kernel_rfl) ?_) | (refine wpList_laid rfl 23 38 2 _ rfl _ rfl Tryz.underlying23 _ 14 evz (by decide) (by decide) [(0,.agg cX.toList.toArray),(1,.agg cY.toList.toArray)] rfl (cX++ cY) (by kernel_rfl) ?_;intro w6 m6 b6 s6;have HM6:=hide (HM5.out.trans m6 (by simp));have HX6:=hide (m6.blk HX5.out (by simp));have HY6:=hide (m6.blk HY5.out (by simp));have HE1_6:=hide (HE1_5.out.new m6);have HB6:=hide b6;clear m6 b6 s6));refine(awk_seq w6 _ HB6.out B (HBz.out _ HM6.out) (HJ.out _ HM6.out)).mono ?_;rintro e0 w7 ⟨rfl,m7⟩;have HM7:=hide (HM6.out.trans m7 (by simp));have HX7:=hide (m7.blk HX6.out (by simp));have HY7:=hide (m7.blk HY6.out (by simp));have HE1_7:=hide (HE1_6.out.new m7);clear m7;go_wp2_with fail;refine(awk_rseq w7 B (HBz.out _ HM7.out) (HJ.out _ HM7.out)).mono ?_;rintro e0 w8 ⟨A2,c2,l2,rfl,h2,e2,m8⟩;have HM8:=hide (HM7.out.trans m8 (by simp));have HX8:=hide (m8.blk HX7.out (by simp));have HY8:=hide (m8.blk HY7.out (by simp));have HE1_8:=hide (HE1_7.out.new m8);have HE2_8:=hide h2;have HL2:=hide e2;clear h2 e2;clear m8;go_wp2_with fail;refine(awk_rbin7 w8).mono ?_;rintro e0 w9 ⟨A3,c3,k3,rfl,m9⟩;have HM9:=hide (HM8.out.trans m9 (by simp));have HX9:=hide (m9.blk HX8.out (by simp));have HY9:=hide (m9.blk HY8.out (by simp));have HE1_9:=hide (HE1_8.out.new m9);have HE2_9:=hide (HE2_8.out.new m9);clear m9;have hcc:¬9223372036854775807 < awD.size+3:=by have:=HDs.out;omega
 go_wp2_with fail;refine(awk_rseqr w9 B (HBz.out _ HM9.out) (HJ.out _ HM9.out)).mono ?_;rintro e0 w10 ⟨A4,c4,k4,rfl,m10⟩;have HM10:=hide (HM9.out.trans m10 (by simp));have HX10:=hide (m10.blk HX9.out (by simp));have HY10:=hide (m10.blk HY9.out (by simp));have HE1_10:=hide (HE1_9.out.new m10);have HE2_10:=hide (HE2_9.out.new m10);clear hcc;clear m10;go_wp2_with (first | (refine wpList_built rfl 38 _ rfl _ rfl _ rfl c0 (by kernel_rfl) ?_) | (refine wpList_laid rfl 23 38 1 _ rfl _ rfl Tryz.underlying23 _ 14 evz (by decide) (by decide) [(0,.agg c0)] rfl c0 (by kernel_rfl) ?_;intro w11 m11 b11 s11;have HM11:=hide (HM10.out.trans m11 (by simp));have HX11:=hide (m11.blk HX10.out (by simp));have HY11:=hide (m11.blk HY10.out (by simp));have HE1_11:=hide (HE1_10.out.new m11);have HE2_11:=hide (HE2_10.out.new m11);have HB11:=hide b11;clear m11 b11 s11));refine(awk_bin0 w11 _ HB11.out).mono ?_;rintro e0 w12 ⟨rfl,m12⟩;have HM12:=hide (HM11.out.trans m12 (by simp));have HX12:=hide (m12.blk HX11.out (by simp));have HY12:=hide (m12.blk HY11.out (by simp));have HE1_12:=hide (HE1_11.out.new m12);have HE2_12:=hide (HE2_11.out.new m12);clear m12;obtain⟨x1,hx1,hxe⟩:=ev_one HL1.out;obtain⟨y1,y2,hy1,hye⟩:=ev_two HL2.out;subst hx1 hy1;obtain⟨g1,o1,rfl,hg1,hr1⟩:=HE1_12.out.at_ (k:=0) (x:=x1) rfl;obtain⟨g2,o2,rfl,hg2,hr2⟩:=HE2_12.out.at_ (k:=1) (x:=y2) rfl;have R1:=hide (row_cls (S:=Mod [] w12) hr1 hg1 (fun v m=>m));have R2:=hide (row_cls (S:=Mod [] w12) hr2 hg2 (fun v m=>m));have HSx:=hide (fun w' (m:Mod [] w12 w')=>esame_any w' x1.A none x1.e.f.list.length 0 x1.c 0 x1.e awX ((HE1_12.out.rng x1 (by simp)).new m) (rngs_none _ _) true (by rw[hxe];exact aw_same awX));have HSy:=hide (fun w' (m:Mod [] w12 w')=>esame_any w' y2.A none y2.e.f.list.length 0 y2.c 0 y2.e awY ((HE2_12.out.rng y2 (by simp)).new m) (rngs_none _ _) true (by rw[hye];exact aw_same awY));have HSn:=hide (fun w'=>esame_any w' none none 0 0 0 0 awX awY (rngs_none _ _) (rngs_none _ _) false aw_ne);have HMa:=hide (fun w'=>emay_any w' none 0 0 awX (rngs_none _ _) true awX_may);have f1:decide (58 < awD.size)=true:=decide_eq_true HDs.out.1;have f2:decide ((58:Int) < (awD.size:Int))=true:=decide_eq_true (by have:=HDs.out.1;omega);have q9:awS.size=8:=rfl;have f3:58≤awD.size:=by have:=HDs.out.1;omega
 have q1:(awS.toList==(⟨#[7,3,1,0,5,0,0,0]⟩:ByteArray).toList)=true:=beq_self_eq_true _;have q4:(awS.toList== [7,3,1,0,5,0,0,0])=true:=(by decide+kernel);have q5:((awD.extract 0 58).toList==(⟨#[30,123,34,107,105,110,100,34,58,51,44,34,116,105,109,101,34,58,49,44,34,115,112,97,99,101,34,58,48,44,34,110,117,109,34,58,53,44,34,109,97,110,121,34,58,48,44,34,116,101,120,116,34,58,34,34,125,10]⟩:ByteArray).toList)=true:=(by rw[awk_extract];exact beq_self_eq_true _);have q6:((awD.extract 0 58).toList== [30,123,34,107,105,110,100,34,58,51,44,34,116,105,109,101,34,58,49,44,34,115,112,97,99,101,34,58,48,44,34,110,117,109,34,58,53,44,34,109,97,110,121,34,58,48,44,34,116,101,120,116,34,58,34,34,125,10])=true:=(by rw[awk_extract];decide+kernel);clear hr1 hr2 hxe hye;go_upto_region 10 with fail;simp only[List.append_eq,List.cons_append,List.nil_append];refine wp_region_planT (Mod [] w12) [] [([0,1,2,3,4,5,6,7,8,9,10,11,12,13,14,15],16),([17,18,19,20,21,22,23,24,25,26,27,28,29,30,31,32,33,34,35,36,37,38,39,40,41,42,43,44,45,46,47,48,49],50),([51,52,53,54,55,56,57,58,59,60,61,62,63,64,65,66,67,68,69,70,71,72,73,74,75,76,77,78,79,80,81,82,83,84,85],86),([87,88,89,90],91)] [92,93,94,95,96] (by kernel_rfl) (by kernel_rfl) (fun _ _ _ _ _ h=>h) ((Mod.refl _ w12).drew) ?_;have hc0:=(Mod.refl [] w12).drew;show wpQuiet _ _ _ _ _ _;simp only[gd];(repeat (first | (refine wpQuiet_row_want (by kernel_rfl) 38 _ rfl g1 (o1+0 * 14) rfl x1.cells _ R1.out rfl rfl (by kernel_rfl) ?_;simp only[pu]) | (refine wpQuiet_row_want (by kernel_rfl) 38 _ rfl w.heap.size (0) rfl cX.toList _ (cls_row HX12.out (Mod.refl _ w12) HX12.out.lt (by simp)) rfl rfl (by kernel_rfl) ?_;simp only[pu]) | go_big_quiet_step (fail)));refine wpQuiet_nil ?_;go_wp2_with fail;refine(HSx.out _ hc0).mono ?_;rintro e0 w13 ⟨rfl,m0⟩;have hc1:=hc0.trans m0 (by simp);clear m0;go_wp2_with fail;refine Ph.on (fun _=>hc1) ?_;show wpQuiet _ _ _ _ _ _;simp only[gd];(repeat (first | (refine wpQuiet_row_want (by kernel_rfl) 38 _ rfl g2 (o2+1 * 14) rfl y2.cells _ R2.out rfl rfl (by kernel_rfl) ?_;simp only[pu]) | (refine wpQuiet_row_want (by kernel_rfl) 38 _ rfl w1.heap.size (0) rfl cY.toList _ (cls_row HY12.out (Mod.refl _ w12) HY12.out.lt (by simp)) rfl rfl (by kernel_rfl) ?_;simp only[pu]) | go_big_quiet_step (fail)));refine wpQuiet_nil ?_;go_wp2_with fail;refine(HSy.out _ hc1).mono ?_;rintro e0 w14 ⟨rfl,m0⟩;have hc2:=hc1.trans m0 (by simp);clear m0;go_wp2_with fail;refine Ph.on (fun _=>hc2) ?_;show wpQuiet _ _ _ _ _ _;simp only[gd];(repeat (first | (refine wpQuiet_row_want (by kernel_rfl) 38 _ rfl w.heap.size (0) rfl cX.toList _ (cls_row HX12.out (Mod.refl _ w12) HX12.out.lt (by simp)) rfl rfl (by kernel_rfl) ?_;simp only[pu]) | go_big_quiet_step (fail)));refine wpQuiet_nil ?_;go_wp2_with fail;refine(HMa.out _).mono ?_;rintro e0 w15 ⟨rfl,m0⟩;have hc3:=hc2.trans m0 (by simp);clear m0;go_wp2_with fail;refine Ph.on (fun _=>hc3) ?_;show wpQuiet _ _ _ _ _ _;simp only[gd];(repeat (first | (refine wpQuiet_row_want (by kernel_rfl) 38 _ rfl w.heap.size (0) rfl cX.toList _ (cls_row HX12.out (Mod.refl _ w12) HX12.out.lt (by simp)) rfl rfl (by kernel_rfl) ?_;simp only[pu]) | (refine wpQuiet_row_want (by kernel_rfl) 38 _ rfl w1.heap.size (0) rfl cY.toList _ (cls_row HY12.out (Mod.refl _ w12) HY12.out.lt (by simp)) rfl rfl (by kernel_rfl) ?_;simp only[pu]) | go_big_quiet_step (fail)));refine wpQuiet_nil ?_;go_wp2_with fail;refine(HSn.out _).mono ?_;rintro e0 w16 ⟨rfl,m0⟩;have hc4:=hc3.trans m0 (by simp);clear m0;go_wp2_with fail;refine Ph.on (fun _=>hc4) ?_;show wpQuiet _ _ _ _ _ _;simp only[gd];(repeat (go_big_quiet_step (fail)));refine wpQuiet_nil ?_;go_wp2_with fail;go_ret;exact⟨rfl,HM12.out.trans hc4 (by simp)⟩
section
variable {w:World} {D:ByteArray} {l:List Ev} {k:Int}
variable {B:Nat}
end
end Go.Proofs.YtlfjhgamlkbofaaGreatDoor
namespace Go.Proofs.YtlfjhgamlkbofaaGreatDoor
open Go.RowKit Go.Lib
theorem star_errorString:("*" :String)++ "errors.errorString" = "*errors.errorString" :=by decide
def laidL:List (String×DataW Unit):= [("math/bits.deBruijn32tab",Rows.laid_math_bits_deBruijn32tab),("math/bits.deBruijn64tab",Rows.laid_math_bits_deBruijn64tab),("internal/strconv.uint64pow10",Rows.laid_internal_strconv_uint64pow10),("unicode/utf8.acceptRanges",Rows.laid_unicode_utf8_acceptRanges),("strconv.ErrRange",Rows.laid_strconv_ErrRange),("strconv.ErrSyntax",Rows.laid_strconv_ErrSyntax),("unicode/utf8.first",Rows.laid_unicode_utf8_first)]
theorem var_lt {P:Program} {W:World} {n:String} {g:Nat} {cs:Array Value} (hg:P.globalNamed n=some g) (hv:W.var? P n=some cs) (h0:0 < cs.size):g < W.heap.size:=by have h:=World.var?_cell hg hv 0;rw[Array.getElem?_eq_getElem h0]at h;exact World.block_lt_of_cell? W _ h
theorem jvars_of_laid {W:World} (h0:laidMetH Tryz.prog laidL W):JVars W.heap.size W:=by
 have h:laidMet Tryz.prog laidL W:=(by rw[MakeChecks.laidMetH_plain _ _ _ (by kernel_rfl)]at h0;exact h0);unfold laidL at h;have hp:=h.tail.tail;have hr:=hp.tail.tail;have hT:TabIs Tryz.prog W "internal/strconv.uint64pow10" .u64 Lib.pow10Tab:=
  tabIs_of_head (g:=1) (t:=225) (e:=33) (n:=20) (by kernel_rfl) (by kernel_rfl) Tryz.underlying225 Tryz.underlying33 (by kernel_rfl) (by kernel_rfl) hp
 have hrow:∀u,Tryz.prog.typeName? 3 u=some "*errors.errorString" →u=239:=(by intro u h;exact typeName_ptr_named (nm:= "errors.errorString") (by rw[star_errorString];kernel_rfl) (by kernel_rfl) (by decide) u (by rw[star_errorString];exact h));obtain⟨a,s,hv, -, -, -⟩:=laid_sentinel (g:=5) (ti:=104) (tp:=239) (te:=241) (ts:=9) hr (by kernel_rfl) (by kernel_rfl) Tryz.underlying104 hrow Tryz.underlying239 Tryz.underlying241 rfl rfl Tryz.underlying9 (by kernel_rfl) (by kernel_rfl);intro w' hb;refine⟨?_,_,_,var?_below (g:=5) hb (by kernel_rfl) (var_lt (by kernel_rfl) hv (by simp)) hv⟩;exact var?_below (g:=1) hb (by kernel_rfl) (var_lt (by kernel_rfl) hT (by simp[Lib.pow10Tab])) hT
end Go.Proofs.YtlfjhgamlkbofaaGreatDoor
