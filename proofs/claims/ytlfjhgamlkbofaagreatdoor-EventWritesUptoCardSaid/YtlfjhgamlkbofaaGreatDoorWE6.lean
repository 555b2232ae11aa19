/-
  Contracts of the functions that the laws of this seat reach, and plain laws, part 13 of 17; no condition.
-/
import Derived.Test.YtlfjhgamlkbofaaGreatDoorWE1
import Derived.Test.YtlfjhgamlkbofaaGreatDoorWJ1
import Derived.Test.YtlfjhgamlkbofaaGreatDoorWJ3
import Derived.Test.YtlfjhgamlkbofaaGreatDoorWC
import Derived.Lib.IndexLaws
import Derived.Deep.QuietTactic
import Derived.BigQuiet
import Derived.Test.YtlfjhgamlkbofaaGreatDoorWE5
import Derived.Test.YtlfjhgamlkbofaaGreatDoorWE2
import Derived.Test.YtlfjhgamlkbofaaGreatDoorWJ2
import Derived.Test.YtlfjhgamlkbofaaGreatDoorWF1
import Derived.Test.YtlfjhgamlkbofaaGreatDoorWE4
import Derived.Test.YtlfjhgamlkbofaaGreatDoorRows
import Derived.Stop.LaidErr
import Derived.MakeChecks
import Derived.WalkSmall
set_option linter.unusedVariables false
set_option linter.unusedSimpArgs false
set_option linter.unnecessarySimpa false
set_option maxRecDepth 100000
set_option maxHeartbeats 16000000
namespace Go.Proofs.YtlfjhgamlkbofaaGreatDoor
open Go.RowKit Js
def z25 (s:ByteArray):Value:=match qj7 s.data.toList with
 | some x=> .tuple #[str x.1,str x.2,.bool true]
 | none=> .tuple #[.string s,.string ⟨#[]⟩,.bool false]
theorem jm1:∀l:List UInt8,match qj7 l with
  | some x=>Lib.indexByte l 10=x.1.length∧x.1=l.take x.1.length∧x.2=l.drop (x.1.length+1)
  | none=>Lib.indexByte l 10= -1
 | []=>rfl
 | c ::l=>by
  have ih:=jm1 l;rw[qj7];by_cases h:c=10
  ·rw[if_pos h];simp[Lib.indexByte,h]
  ·rw[if_neg h];have hb:(c==10)=false:=(by simpa using h);unfold Lib.indexByte;rw[hb];cases hc:qj7 l with
   | none=>rw[hc]at ih;simp only[Option.map_none]at ih ⊢;rw[ih];rfl
   | some x=>
    rw[hc]at ih;simp only[Option.map_some]at ih ⊢;obtain⟨h1,h2,h3⟩:=ih;have hn:(Lib.indexByte l 10== -1)=false:=(by rw[h1,beq_eq_false_iff_ne];omega);rw[hn,h1];refine⟨by simp,?_,?_⟩
    ·simp only[List.length_cons,List.take_succ_cons];rw[←h2]
    ·simp only[List.length_cons,List.drop_succ_cons];exact h3
theorem ju3 (w:World) (s:ByteArray):Calls Tryz.prog 108 #[.string s,.string ⟨#[10]⟩] w fun e w'=>e=.returned (.int .i64 (Lib.indexByte s.data.toList 10))∧w'=w:=by
 have HI:Hid (Calls Tryz.prog 141 #[.string s,.int .u8 10] w fun e w'=>e=.returned (.int .i64 (Lib.indexByte s.data.toList 10))∧w'=w):=q00 (Any.stringslite_IndexByte { zd3 with } s 10 w);by_cases h:s=⟨#[10]⟩
 ·subst h;go_enter Tryz.func108,Tryz.ntmps108;go_wp2_with fail;go_ret;exact⟨rfl,rfl⟩
 ·have hne:((⟨#[10]⟩:ByteArray).toList==s.toList)=false:=qa3 (fun e=>h e.symm);have hne2:([10]==s.toList)=false:=by have h2:=hne;rw[Lib.toList_data ⟨#[10]⟩]at h2;exact h2
  clear h;go_enter Tryz.func108,Tryz.ntmps108;go_wp2_with fail;refine HI.out.mono ?_;rintro e w' ⟨rfl,rfl⟩;go_wp2_with fail;go_ret;exact⟨rfl,rfl⟩
theorem zc4 (w:World) (s:ByteArray) (hs:s.size≤1000000):Calls Tryz.prog 39 #[.string s,.string ⟨#[10]⟩] w fun e w'=>e=.returned (z25 s)∧Mod [] w w':=by
 have H:=ju3 w s;have hix:=jm1 s.data.toList;have key:Calls Tryz.prog 76 #[.string s,.string ⟨#[10]⟩] w fun e w'=>e=.returned (z25 s)∧Mod [] w w':=by
  unfold z25;cases hc:qj7 s.data.toList with
  | none=>rw[hc]at hix;simp only at hix;rw[hix]at H;have H1:=q00 H;clear H hix hc;go_enter Tryz.func76,Tryz.ntmps76;go_wp2_with fail;refine H1.out.mono ?_;rintro e w' ⟨rfl,rfl⟩;go_wp2_with fail;refine bodyPost_ret (results_tmp3 rfl _ _ _) rfl ?_;exact⟨rfl,Mod.refl _ _⟩
  | some x=>
   rw[hc]at hix;obtain⟨h1,h2,h3⟩:=hix;obtain⟨n,hn⟩:∃n,x.1.length=n:=⟨_,rfl⟩;rw[hn]at h1 h2 h3;have hsz:n+1≤s.size:=by have:=qq hc;have:=congrArg List.length this;rw[q05]at this;simp only[List.length_append,List.length_cons]at this;omega
   rw[h1]at H;have H1:=q00 H
   have HE:Hid (Value.tuple #[str x.1,str x.2,.bool true]=.tuple #[.string (s.extract 0 n),.string (s.extract (n+1) s.size),.bool true]):=q00 (by
    have e1:str x.1=.string (s.extract 0 n):=by
     rw[h2];unfold str;congr 1;apply qd2;rw[Lib.extract_data];simp
    have e2:str x.2=.string (s.extract (n+1) s.size):=by
     rw[h3];unfold str;congr 1;apply qd2
     rw[Lib.extract_data,List.take_of_length_le (by rw[List.length_drop,q05];omega)]
    rw[e1,e2])
   simp only[HE.out];clear H h1 h2 h3 hn hc HE;have c0:(0:Int)≤(n:Int):=(by omega);have c1:(n:Int)≤(s.size:Int):=(by omega);have c2:IntKind.i64.wrap ((n:Int)+1)=(n:Int)+1:=IntWalk.i64_in _ (by omega);have c3:(0:Int)≤(n:Int)+1:=(by omega);have c4:(n:Int)+1≤(s.size:Int):=(by omega);have c5:((n:Int)+1).toNat=n+1:=(by omega);go_enter Tryz.func76,Tryz.ntmps76;go_wp2_with fail;refine H1.out.mono ?_;rintro e w' ⟨rfl,rfl⟩;go_wp2_with fail;go_quiet (fail);clear c2 c5;go_wp2_with fail;refine bodyPost_ret (results_tmp3 rfl _ _ _) rfl ?_;exact⟨rfl,(Mod.refl [] _).drewN _⟩
 have K:=q00 key;obtain⟨a,b,c,hv⟩:∃a b c,z25 s=.tuple #[a,b,c]:=(by unfold z25;cases qj7 s.data.toList <;> exact⟨_,_,_,rfl⟩);rw[hv]at K ⊢;clear H hix key hv;go_enter Tryz.func39,Tryz.ntmps39;go_wp2_with fail;refine K.out.mono ?_;rintro e w1 ⟨rfl,m1⟩;go_wp2_with fail;refine bodyPost_ret (results_tmp3 rfl _ _ _) rfl ?_;exact⟨rfl,m1⟩
def j50 (l:List UInt8):Value:=if l.head? =some 30 then .tuple #[str l.tail,.bool true]else .tuple #[str l,.bool false]
theorem j41 (w:World) (s:ByteArray) (hs:s.size≤1000000):Calls Tryz.prog 40 #[.string s,.string ⟨#[30]⟩] w fun e w'=>e=.returned (j50 s.data.toList)∧w'=w:=by
 have key:Calls Tryz.prog 77 #[.string s,.string ⟨#[30]⟩] w fun e w'=>e=.returned (j50 s.data.toList)∧w'=w:=by
  by_cases h0:s.size=0
  ·obtain rfl:=qn h0;have hp:j50 ([]:List UInt8)=.tuple #[.string ⟨#[]⟩,.bool false]:=rfl;have hd:(⟨#[]⟩:ByteArray).data.toList= []:=rfl;rw[hd,hp];clear h0;go_enter Tryz.func77,Tryz.ntmps77;go_wp2_with go_in;go_ret2;exact⟨rfl,rfl⟩
  ·have hne:s.data.toList≠ []:=fun h=>h0 (by rw[←q05,h];rfl);obtain⟨c,l,hcl⟩:=List.exists_cons_of_ne_nil hne;rw[hcl];have he:s.extract 0 1=⟨#[c]⟩:=(by apply qd2;rw[Lib.extract_data,hcl];rfl);have he2:(.string (s.extract 1 s.size):Value)=str l:=(by unfold str;congr 1;apply qd2;rw[Lib.extract_data,List.take_of_length_le (by rw[List.length_drop,q05];omega),hcl];rfl);have hst:(.string s:Value)=str (c ::l):=(by unfold str;rw[←hcl]);have s1:1≤s.size:=(by omega);have HE2:=q00 he2;have HSt:=q00 hst;have HL:Hid ((s.extract 0 1).toList= [c]):=q00 (by rw[Lib.toList_data,he]);clear h0 hne hcl he2 hst he;by_cases h:c=30
   ·have hq:((s.extract 0 1).toList== [30])=true:=(by rw[HL.out,h];rfl);have hp:j50 (c ::l)=.tuple #[str l,.bool true]:=(by unfold j50;rw[h];rfl);rw[hp,←HE2.out];clear hp;go_enter Tryz.func77,Tryz.ntmps77;go_wp2_with go_in;go_ret2;exact⟨rfl,rfl⟩
   ·have hq:((s.extract 0 1).toList== [30])=false:=(by rw[HL.out];simpa using h);have hp:j50 (c ::l)=.tuple #[.string s,.bool false]:=(by unfold j50;rw[if_neg (by simpa using h),HSt.out]);rw[hp];clear hp;go_enter Tryz.func77,Tryz.ntmps77;go_wp2_with go_in;go_ret2;exact⟨rfl,rfl⟩
 have K:=q00 key;obtain⟨a,b,hv⟩:∃a b,j50 s.data.toList=.tuple #[a,b]:=by
  unfold j50
  split <;> exact⟨_,_,rfl⟩
 rw[hv]at K ⊢;clear key hv;go_enter Tryz.func40,Tryz.ntmps40;go_wp2_with fail;refine K.out.mono ?_;rintro e w1 ⟨rfl,rfl⟩;go_wp2_with fail;go_ret2;exact⟨rfl,rfl⟩
def jc2 (s:List UInt8):Option Ev:=if(q81 s).2.2=0 then eof (q81 s).1 else none
theorem zj9 (s:List UInt8):qj9 s=(qj7 s).bind fun x=>if x.1.head? =some 30 then(jc2 x.1.tail).map fun e=>(e,x.2)else none:=by
 unfold qj9 jc2;congr 1;funext x
 split
 ·split <;> rfl
 ·rfl
def za5 (w:World) (s:List UInt8) (r:Ending) (w':World):Prop:=∃(A:Option Addr) (c:Nat) (e:Ev),r=.returned (.tuple #[q46 A e.f.list.length c e,.bool (jc2 s).isSome])∧(∀e',jc2 s=some e'→e=e')∧ROwn w' w.heap.size A c e.f.list∧e.f.list.length≤64∧Mod [] w w'
theorem zj4 (w:World) (x:ByteArray) (hx:x.size≤1000000) (B:Nat) (hB:B≤w.heap.size) (hj:JVars B w):Calls Tryz.prog 41 #[.string x] w (za5 w x.data.toList):=by
 have HR0:=q00 (Blk.new w 38 (ecs none 0 0 ev0));have HM0:=q00 ((Mod.refl [] w).alloc (.cells (ecs none 0 0 ev0) 38));have hrd:=z52 (w.alloc (.cells (ecs none 0 0 ev0) 38)) x hx B (Nat.le_trans hB HM0.out.size) (hj.mod HM0.out hB (by simp));obtain⟨s,hs⟩:∃s,x.data.toList=s:=⟨_,rfl⟩;have hsl:s.length≤1000000:=(by rw[←hs,q05];exact hx);rw[hs]at hrd ⊢;have HRd:=q00 hrd;obtain⟨er,her⟩:∃er,(q81 s).2.2=er:=⟨_,rfl⟩;have HEr:=q00 her;clear hrd hs hx her hj;go_enter Tryz.func41,Tryz.ntmps41;go_wp2_with fail;refine HRd.out.mono ?_;rintro e0 w2 ⟨v,rfl,hv,hvi,m2⟩;rw[HEr.out];have HM2:=q00 (HM0.out.trans m2 (by simp));have HR2:=q00 (m2.blk HR0.out (by simp));obtain⟨xc,hxc⟩:∃xc,v.cells=xc:=⟨_,rfl⟩;have HXz:Hid (xc.size=5):=q00 (by rw[←hxc];exact v.cells_size);have HX1:Hid (xc.all (·.oneCell')=true):=q00 (by rw[←hxc];cases v;simp[JN.cells,Value.oneCell']);rw[hxc];have HXc:=q00 hxc;have HVv:=q00 hv;have HVi:=q00 hvi;clear m2 hxc hv hvi;go_upto_region 2 with(refine q06 rfl 43 _ _ rfl rfl _ xc rfl rfl (by rw[HXz.out];kernel_rfl) (by rw[HXz.out];rfl) HX1.out ?_;intro w3 m3 b3 s3;have HM3:=q00 (HM2.out.trans m3 (by simp));have HM23:=q00 m3;have HR3:=q00 (m3.blk HR2.out (by simp));have HX3:=q00 b3.range;clear m3 b3 s3);by_cases h0:er=0
 ·obtain rfl:=h0;have hof:=zm9 w2 w3 v HVi.out HM23.out (by rw[HVv.out];intro h;exact zd5 h HEr.out hsl);have HSd:Hid (jc2 s=eof (q81 s).1):=q00 (by unfold jc2;rw[if_pos HEr.out]);rw[HXc.out,HVv.out]at hof;have HOf:=q00 hof;clear hof;go_wp2_with (refine wpList_load_mid rfl 43 _ rfl w2.heap.size 0 rfl xc.toList _ HX3.out rfl rfl (by rw[Array.length_toList,HXz.out];kernel_rfl) ?_);refine HOf.out.mono ?_;rintro e0 w4 ⟨A,c,e,rfl,he,o4,l4,m4⟩;have HM4:=q00 (HM3.out.trans m4 (by simp));have HR4:=q00 (m4.blk HR3.out (by simp));have HO4:=q00 (o4.base HM3.out.size);have HHe:=q00 he;obtain⟨er,her⟩:∃er:Int,(if(eof (q81 s).1).isSome then 0 else 2)=er:=⟨_,rfl⟩;rw[her];have HE2:=q00 her;clear m4 o4 he her;obtain⟨cs,hcs⟩:∃cs,ecs A e.f.list.length c e=cs:=⟨_,rfl⟩;have HCs:=q00 hcs;have HCz:Hid (cs.size=14):=q00 (by rw[←hcs];rfl);have HC1:Hid (cs.all (·.oneCell')=true):=q00 (by rw[←hcs];exact qm3 _ _ _ _);unfold q46;rw[hcs];clear hcs;go_upto_region 5 with(refine q06 rfl 38 _ _ rfl rfl _ cs rfl rfl (by rw[HCz.out];kernel_rfl) (by rw[HCz.out];rfl) HC1.out ?_;intro w6 m6 b6 s6;have HM6:=q00 (HM4.out.trans m6 (by simp));have HR6:=q00 (m6.blk HR4.out (by simp));have HO6:=q00 (HO4.out.mod m6 (by simp));have HX6:=q00 b6.range;clear m6 b6 s6);go_wp2_with (first | (refine wpList_load_mid rfl 38 _ rfl w4.heap.size 0 rfl cs.toList _ HX6.out rfl rfl (by rw[Array.length_toList,HCz.out];kernel_rfl) ?_) | (refine q01 rfl 38 _ _ rfl rfl w.heap.size 38 (ecs none 0 0 ev0) cs HR6.out rfl rfl (by rw[HCz.out];kernel_rfl) (by rw[HCz.out];rfl) HC1.out ?_;intro w9 m9 b9 s9;have HM9:=q00 (HM6.out.trans m9 (by simp));have HB9:=q00 b9;have HO9:=q00 (HO6.out.mod m9 (by intro g o h;have:=HO6.out.ne HR6.out (by decide) g o h;simpa using this));clear m9 b9 s9));refine bodyPost_ret (q02 rfl _ _ w.heap.size 38 cs _ rfl HB9.out Tryz.underlying38 rfl (by rw[HCz.out];kernel_rfl)) rfl ?_;have h:=HE2.out;have h2:=HHe.out;refine⟨A,c,e,?_,fun e' h3=> ?_,HO9.out,l4,HM9.out⟩
  ·rw[HSd.out,←HCs.out];cases hq:eof (q81 s).1 with
   | none=>rw[hq]at h;obtain rfl:=h;rfl
   | some y=>rw[hq]at h;obtain rfl:=h;rfl
  ·rw[HSd.out]at h3;rw[h3]at h2;exact h2
 ·have hn:(er !=0)=true:=(by simpa using h0);have HNo:Hid (jc2 s=none):=q00 (by unfold jc2;rw[HEr.out,if_neg h0]);clear h0;go_wp2_with (refine q01 rfl 38 _ _ rfl rfl w.heap.size 38 (ecs none 0 0 ev0) (ecs none 0 0 ev0) HR3.out rfl rfl (by kernel_rfl) rfl (by kernel_rfl) ?_;intro w9 m9 b9 s9;have HM9:=q00 (HM3.out.trans m9 (by simp));have HB9:=q00 b9;clear m9 b9 s9);refine bodyPost_ret (q02 rfl _ _ w.heap.size 38 (ecs none 0 0 ev0) _ rfl HB9.out Tryz.underlying38 rfl (by kernel_rfl)) rfl ?_;exact⟨none,0,ev0,by rw[HNo.out];rfl,(fun e' h=>by rw[HNo.out]at h;cases h),ROwn.nil _ _,by simp[ev0,fr0],HM9.out⟩
theorem zj6 (w:World) (x:ByteArray) (hx:x.size≤1000000) (B:Nat) (hB:B≤w.heap.size) (hj:JVars B w):Calls Tryz.prog 38 #[.string x] w (OnePost qj9 w x.data.toList):=by
 have HR0:=q00 (Blk.new w 38 (ecs none 0 0 ev0));have HM0:=q00 ((Mod.refl [] w).alloc (.cells (ecs none 0 0 ev0) 38));have hct:=zc4 (w.alloc (.cells (ecs none 0 0 ev0) 38)) x hx;unfold z25 at hct;have HSr:=q00 (zj9 x.data.toList);cases hc:qj7 x.data.toList with
 | none=>
  rw[hc]at hct;have HNo:Hid (qj9 x.data.toList=none):=q00 (by rw[HSr.out,hc];rfl);obtain⟨pa,pb,hp⟩:∃(pa:ByteArray) (pb:Bool),j50 x.data.toList=.tuple #[.string pa,.bool pb]:=by
   unfold j50 str
   split <;> exact⟨_,_,rfl⟩
  have hpf:=fun w'=>j41 w' x hx;rw[hp]at hpf;have HCt:=q00 hct;have HPf:=q00 hpf;clear hct hpf hp hc hj;go_enter Tryz.func38,Tryz.ntmps38;go_wp2_with fail;refine HCt.out.mono ?_;rintro e0 w2 ⟨rfl,m2⟩;have HM2:=q00 (HM0.out.trans m2 (by simp));have HR2:=q00 (m2.blk HR0.out (by simp));clear m2;go_wp2_with fail;refine(HPf.out _).mono ?_;rintro e0 w3 ⟨rfl,rfl⟩;go_upto_region 4 with fail;go_wp2_with (refine q01 rfl 38 _ _ rfl rfl w.heap.size 38 (ecs none 0 0 ev0) (ecs none 0 0 ev0) HR2.out rfl rfl (by kernel_rfl) rfl (by kernel_rfl) ?_;intro w9 m9 b9 s9;have HM9:=q00 (HM2.out.trans m9 (by simp));have HB9:=q00 b9;clear m9 b9 s9);refine bodyPost_ret (q22 rfl _ _ w.heap.size 38 (ecs none 0 0 ev0) _ rfl HB9.out Tryz.underlying38 rfl (by kernel_rfl)) rfl ?_;exact OnePost.no _ HNo.out HM9.out
 | some ab=>
  obtain⟨a,b⟩:=ab;rw[hc]at hct;have hsz:=congrArg List.length (qq hc);rw[q05]at hsz;simp only[List.length_append,List.length_cons]at hsz;obtain⟨qa,hqa⟩:∃q:ByteArray,(⟨a.toArray⟩:ByteArray)=q:=⟨_,rfl⟩;obtain⟨qb,hqb⟩:∃q:ByteArray,(⟨b.toArray⟩:ByteArray)=q:=⟨_,rfl⟩;have hqs:qa.size=a.length:=(by rw[←hqa];rfl);have hqd:qa.data.toList=a:=(by rw[←hqa]);have HQb:Hid (qb.data.toList=b):=q00 (by rw[←hqb]);unfold str at hct;simp only[hqa,hqb]at hct;have HCt:=q00 hct;have hpf:=fun w'=>j41 w' qa (by omega);rw[hqd]at hpf;unfold j50 str at hpf;by_cases h30:a.head? =some 30
  ·rw[if_pos h30]at hpf;have HSr2:Hid (qj9 x.data.toList=(jc2 a.tail).map fun e=>(e,b)):=q00 (by rw[HSr.out,hc];show(if a.head? =some 30 then _ else _)=_;rw[if_pos h30]);obtain⟨qt,hqt⟩:∃q:ByteArray,(⟨a.tail.toArray⟩:ByteArray)=q:=⟨_,rfl⟩;have hts:qt.size≤1000000:=by have:qt.size=a.tail.length:=(by rw[←hqt];rfl);rw[this,List.length_tail];omega
   have htd:qt.data.toList=a.tail:=(by rw[←hqt]);simp only[hqt]at hpf;have HPf:=q00 hpf;have hsd:=fun w' (m:Mod [] w w')=>zj4 w' qt hts B (Nat.le_trans hB m.size) (hj.mod m hB (by simp));rw[htd]at hsd;have HSd:=q00 hsd;clear hct hpf hc hj hsz hqa hqb hqs hqd h30 hqt hts htd hsd;go_enter Tryz.func38,Tryz.ntmps38;go_wp2_with fail;refine HCt.out.mono ?_;rintro e0 w2 ⟨rfl,m2⟩;have HM2:=q00 (HM0.out.trans m2 (by simp));have HR2:=q00 (m2.blk HR0.out (by simp));clear m2;go_wp2_with fail;refine(HPf.out _).mono ?_;rintro e0 w2b ⟨rfl,rfl⟩;go_wp2_with fail;refine(HSd.out _ HM2.out).mono ?_;rintro e0 w3 ⟨A,c,e,rfl,he,o3,l3,m3⟩;have HM3:=q00 (HM2.out.trans m3 (by simp));have HR3:=q00 (m3.blk HR2.out (by simp));have HO3:=q00 (o3.base HM2.out.size);have HHe:=q00 he;clear m3 o3 he;obtain⟨ok,hok⟩:∃ok,(jc2 a.tail).isSome=ok:=⟨_,rfl⟩;rw[hok];have HOk:=q00 hok;clear hok;obtain⟨cs,hcs⟩:∃cs,ecs A e.f.list.length c e=cs:=⟨_,rfl⟩;have HCs:=q00 hcs;have HCz:Hid (cs.size=14):=q00 (by rw[←hcs];rfl);have HC1:Hid (cs.all (·.oneCell')=true):=q00 (by rw[←hcs];exact qm3 _ _ _ _);unfold q46;rw[hcs];clear hcs;go_upto_region 6 with(refine q06 rfl 38 _ _ rfl rfl _ cs rfl rfl (by rw[HCz.out];kernel_rfl) (by rw[HCz.out];rfl) HC1.out ?_;intro w6 m6 b6 s6;have HM6:=q00 (HM3.out.trans m6 (by simp));have HR6:=q00 (m6.blk HR3.out (by simp));have HO6:=q00 (HO3.out.mod m6 (by simp));have HX6:=q00 b6.range;clear m6 b6 s6);go_wp2_with (first | (refine wpList_load_mid rfl 38 _ rfl w3.heap.size 0 rfl cs.toList _ HX6.out rfl rfl (by rw[Array.length_toList,HCz.out];kernel_rfl) ?_) | (refine q01 rfl 38 _ _ rfl rfl w.heap.size 38 (ecs none 0 0 ev0) cs HR6.out rfl rfl (by rw[HCz.out];kernel_rfl) (by rw[HCz.out];rfl) HC1.out ?_;intro w9 m9 b9 s9;have HM9:=q00 (HM6.out.trans m9 (by simp));have HB9:=q00 b9;have HO9:=q00 (HO6.out.mod m9 (by intro g o h;have:=HO6.out.ne HR6.out (by decide) g o h;simpa using this));clear m9 b9 s9));refine bodyPost_ret (q22 rfl _ _ w.heap.size 38 cs _ rfl HB9.out Tryz.underlying38 rfl (by rw[HCz.out];kernel_rfl)) rfl ?_;rw[←HCs.out];refine OnePost.of _ _ HM9.out HO9.out l3 ?_;rw[HSr2.out];have h1:=HHe.out;have h2:=HOk.out;cases hq:jc2 a.tail with
   | none=>rw[hq]at h2;exact h2.symm
   | some y=>rw[hq]at h2;exact⟨h2.symm,h1 y hq,HQb.out⟩
  ·rw[if_neg h30]at hpf;have HNo:Hid (qj9 x.data.toList=none):=q00 (by rw[HSr.out,hc];show(if a.head? =some 30 then _ else _)=_;rw[if_neg h30]);have HPf:=q00 hpf;clear hct hpf hc hj hsz hqa hqb hqs hqd h30;go_enter Tryz.func38,Tryz.ntmps38;go_wp2_with fail;refine HCt.out.mono ?_;rintro e0 w2 ⟨rfl,m2⟩;have HM2:=q00 (HM0.out.trans m2 (by simp));have HR2:=q00 (m2.blk HR0.out (by simp));clear m2;go_wp2_with fail;refine(HPf.out _).mono ?_;rintro e0 w3 ⟨rfl,rfl⟩;go_upto_region 4 with fail;go_wp2_with (refine q01 rfl 38 _ _ rfl rfl w.heap.size 38 (ecs none 0 0 ev0) (ecs none 0 0 ev0) HR2.out rfl rfl (by kernel_rfl) rfl (by kernel_rfl) ?_;intro w9 m9 b9 s9;have HM9:=q00 (HM2.out.trans m9 (by simp));have HB9:=q00 b9;clear m9 b9 s9);refine bodyPost_ret (q22 rfl _ _ w.heap.size 38 (ecs none 0 0 ev0) _ rfl HB9.out Tryz.underlying38 rfl (by kernel_rfl)) rfl ?_;exact OnePost.no _ HNo.out HM9.out
theorem j43 (w:World) (s:ByteArray) (hs:s.size≤1000000) (B:Nat) (hB:B≤w.heap.size) (hj:JVars B w):Calls Tryz.prog 14 #[.string s] w (qy2 qj9 w s.data.toList):=by have H:=q00 (j76 w s (by omega) 38 qm2 qj9 jw9 (fun args w=>by kernel_rfl) (fun w' x m hx=>zj6 w' x (by omega) B (Nat.le_trans hB m.size) (hj.mod m hB (by simp))));clear hj;go_enter Tryz.func14,Tryz.ntmps14;go_wp2_with fail;refine H.out.mono ?_;rintro e0 w1 ⟨A,c,l,rfl,h1,h2,h3,m1⟩;go_wp2_with fail;refine bodyPost_ret (results_tmp3 rfl _ _ _) rfl ?_;exact⟨A,c,l,rfl,h1,h2,h3,m1⟩
end Go.Proofs.YtlfjhgamlkbofaaGreatDoor
namespace Go.Proofs.YtlfjhgamlkbofaaGreatDoor
open Go.RowKit
theorem jv8 (w:World) (A B:Option Addr) (n m c d:Nat) (a b:Ev) (hr:Rngs w A n a.f.list) (hs:Rngs w B m b.f.list) (v:Bool) (hv:qd3 a b=v):
  Calls Tryz.prog 25 #[q46 A n c a,q46 B m d b] w (RPost w v):=by
 have HM:=q00 (((Mod.refl [] w).alloc (.cells (ecs A n c a) 38)).alloc (.cells (ecs B m d b) 38));have HR:=q00 (hr.new HM.out);have HS:=q00 (hs.new HM.out);have HF:=q00 (fun w' (h:Rngs w' A n a.f.list) (k:Rngs w' B m b.f.list) (q:Bool) (hq:qc6 a.f b.f=q)=>jg2 w' A B n m c d a.f b.f h k q hq);clear hr hs;obtain⟨k1,s1,t1,n1,m1,x1,f1⟩:=a;obtain⟨k2,s2,t2,n2,m2,x2,f2⟩:=b;unfold q46 q17 fcs at *;unfold ecs at *;dsimp only at *;by_cases h:k1=k2;rotate_left
 ·have hv2:v=false:=(by rw[←hv];unfold qd3;simp[h]);subst hv2;have e1:(k1==k2)=false:=(by rw[beq_eq_false_iff_ne];omega);clear hv h;go_enter Tryz.func25,Tryz.ntmps25;go_wp2_with fail;go_ret;exact⟨rfl,HM.out⟩
 subst h;by_cases h:s1=s2;rotate_left
 ·have hv2:v=false:=(by rw[←hv];unfold qd3;simp[h]);subst hv2;have e1:(s1==s2)=false:=(by rw[beq_eq_false_iff_ne];omega);clear hv h;go_enter Tryz.func25,Tryz.ntmps25;go_wp2_with fail;go_ret;exact⟨rfl,HM.out⟩
 subst h;by_cases h:t1=t2;rotate_left
 ·have hv2:v=false:=(by rw[←hv];unfold qd3;simp[h]);subst hv2;have e1:((t1:Int)==(t2:Int))=false:=(by rw[beq_eq_false_iff_ne];omega);clear hv h;go_enter Tryz.func25,Tryz.ntmps25;go_wp2_with fail;go_ret;exact⟨rfl,HM.out⟩
 subst h;by_cases h:n1=n2;rotate_left
 ·have hv2:v=false:=(by rw[←hv];unfold qd3;simp[h]);subst hv2;have e1:((n1:Int)==(n2:Int))=false:=(by rw[beq_eq_false_iff_ne];omega);clear hv h;go_enter Tryz.func25,Tryz.ntmps25;go_wp2_with fail;go_ret;exact⟨rfl,HM.out⟩
 subst h;by_cases h:m1=m2;rotate_left
 ·have hv2:v=false:=(by rw[←hv];unfold qd3;simp[h]);subst hv2;have e1:((m1:Int)==(m2:Int))=false:=(by rw[beq_eq_false_iff_ne];omega);clear hv h;go_enter Tryz.func25,Tryz.ntmps25;go_wp2_with fail;go_ret;exact⟨rfl,HM.out⟩
 subst h;by_cases h:x1=x2;rotate_left
 ·have hv2:v=false:=(by rw[←hv];unfold qd3;simp[h]);subst hv2;have e1:(x1.toList==x2.toList)=false:=(by exact qa3 h);clear hv h;go_enter Tryz.func25,Tryz.ntmps25;go_wp2_with fail;go_ret;exact⟨rfl,HM.out⟩
 subst h;have HV:Hid (qc6 f1 f2=v):=q00 (by rw[←hv];unfold qd3;simp);clear hv;go_enter Tryz.func25,Tryz.ntmps25;go_wp2_with fail;refine(HF.out _ HR.out HS.out v HV.out).mono ?_;rintro e0 w1 ⟨rfl,mm⟩;go_wp2_with fail;go_ret;exact⟨rfl,HM.out.trans mm (by simp)⟩
def evs (l:List EV):List Ev:=l.map EV.e
theorem zn8 (l:List EV):(evs l).length=l.length:=by unfold evs;simp
theorem EIn.at_ {w:World} {A:Option Addr} {l:List EV} (h:EIn w A l) {k:Nat} {x:EV} (hx:l[k]? =some x):∃g o,A=some ⟨g,o,none⟩∧g < w.heap.size∧w.rangeAt g (o+k * 14) x.cells:=by obtain⟨g,o,h1,h2,h3⟩:=h.els.at_ hx;exact⟨g,o,h1,h2,fun j v hv=>h3 j v hv⟩
def esz (e:Ev):Nat:=20+e.text.size+e.f.data.size+e.f.more.size+e.f.list.length
def q97 (l:List Ev):Nat:=(l.map esz).sum
theorem z34 (l:List Ev) (e:Ev):q97 (l++ [e])=q97 l+esz e:=by unfold q97;simp
theorem je3:∀(l:List Ev) (k:Nat),q97 (l.take k)≤q97 l
 | [],k=>by simp
 | e ::l,0=>by unfold q97;simp
 | e ::l,k+1=>by have:=je3 l k;unfold q97 at *;simp;rw[←List.map_take];exact this
theorem j78:∀ {l:List Ev} {e:Ev},e∈l→esz e≤q97 l
 | [],_,h=>by simp at h
 | x ::l,e,h=>by
  have hc:q97 (x ::l)=esz x+q97 l:=by unfold q97;simp
  rw[hc]
  rcases List.mem_cons.1 h with rfl | h
  ·omega
  ·have:=j78 h;omega
theorem jm5:∀l:List Ev,20 * l.length≤q97 l
 | []=>by simp
 | e ::l=>by
  have:=jm5 l
  have hc:q97 (e ::l)=esz e+q97 l:=by unfold q97;simp
  rw[hc,List.length_cons]
  unfold esz
  omega
theorem jd4 {l:List EV} {k:Nat} {x:EV} (h:l[k]? =some x):evs (l.take (k+1))=evs (l.take k)++ [x.e]:=by rw[q96 h];unfold evs;simp
theorem z58 (w:World) (A:Option Addr) (c:Nat) (l:List EV) (h:EIn w A l) (hb:q97 (evs l)≤4611686018427387904) (v:Bool) (hv:decide (4096 < q97 (evs l))=v):
  Calls Tryz.prog 17 #[.slice A l.length c] w (RPost w v):=by
 have HE:=q00 h;have HB:=q00 hb;have HV:=q00 hv;have hll:=h.els.len;have HZ:Hid ((q97 (evs (l.take 0)):Int)=0):=q00 rfl;clear h hb hv;go_enter Tryz.func17,Tryz.ntmps17;go_wp2_with fail;go_loopw [3,7] (fun n i wr=>∃k:Nat,i=.int .i64 (k:Int)∧n=.int .i64 (q97 (evs (l.take k)):Nat)∧k≤l.length∧Mod [] w wr) (fun _ i _=>l.length - (intOf i).toNat)
 case atStart=>exact⟨0,rfl,rfl,Nat.zero_le _,Mod.refl _ _⟩
 case round=>
  clear HZ;obtain⟨k,rfl,rfl,hk,hmr⟩:=hrel;have HMr:=q00 hmr;clear hmr;by_cases hlt:k < l.length
  ·obtain⟨x,hx⟩:∃x,l[k]? =some x:=⟨_,List.getElem?_eq_getElem hlt⟩;obtain⟨g,o,rfl,hg,hcx⟩:=HE.out.at_ hx;have hsn:q97 (evs (l.take (k+1)))=q97 (evs (l.take k))+esz x.e:=(by rw[jd4 hx,z34]);have hle:=Nat.le_trans (je3 (evs l) (k+1)) HB.out;have het:(evs l).take (k+1)=evs (l.take (k+1)):=(by unfold evs;rw[List.map_take]);rw[het]at hle;obtain⟨⟨k1,s1,t1,n1,m1,tx,⟨fk,fa,fb,fc,fin,fd,fm,fl⟩⟩,xA,xc⟩:=x;obtain⟨s0,hs0⟩:∃s0,q97 (evs (l.take k))=s0:=⟨_,rfl⟩;rw[hs0]at hsn ⊢;obtain⟨ln,hln⟩:∃ln,fl.length=ln:=⟨_,rfl⟩;unfold esz at hsn;dsimp only at hsn;rw[hln]at hsn;have HSn:=q00 hsn;rw[hsn]at hle;have hcell:∀(j:Nat) (u:Value),(EV.cells ⟨⟨k1,s1,t1,n1,m1,tx,⟨fk,fa,fb,fc,fin,fd,fm,fl⟩⟩,xA,xc⟩)[j]? =some u→∀i:Fam (Mod [] wr),i.w.cell? ⟨g,o+k * 14+j,none⟩=some u:=fun j u hu i=>(HMr.out.trans i.ok (by simp)).cell (p:=⟨g,o+k * 14+j,none⟩) hg (by simp) |>.trans (hcx j u hu);have y5:∀i:Fam (Mod [] wr),i.w.cell? ⟨g,o+k * 14+5,none⟩=some (.string tx):=hcell 5 _ rfl;have y11:∀i:Fam (Mod [] wr),i.w.cell? ⟨g,o+k * 14+11,none⟩=some (.string fd):=hcell 11 _ rfl;have y12:∀i:Fam (Mod [] wr),i.w.cell? ⟨g,o+k * 14+12,none⟩=some (.string fm):=hcell 12 _ rfl;have y13:∀i:Fam (Mod [] wr),i.w.cell? ⟨g,o+k * 14+13,none⟩=some (.slice xA ln xc):=hcell 13 _ (by rw[←hln];rfl);clear hcell hcx hs0 hln hsn hx het;go_upto_region 5 with fail;refine q44 (Mod [] wr) [] [] [0,1,2,3,4,5,6,7,8,9,10,11,12,13,14,15,16,17,18,19,20,21,22,23,24,25,26,27,28,29,30,31,32,33] (by kernel_rfl) (by kernel_rfl) (fun _ _ _ _ _ h=>h) ((Mod.refl [] wr).drew) ?_;show wpQuiet _ _ _ _ _ _;simp only[gd];(repeat (go_big_quiet_step (fail)));refine wpQuiet_nil ?_;clear y5 y11 y12 y13;go_wp2_with fail;go_roundw
   case rel=>exact⟨k+1,by go_num,by rw[HSn.out];go_num,hlt,HMr.out.trans (Mod.refl [] wr).drew (by simp)⟩
   case measure=>simp[intOf];omega
  ·have hke:k=l.length:=(by omega);have hle:=HB.out;have hval:decide (4096 < q97 (evs (l.take k)))=v:=(by rw[hke,List.take_length];exact HV.out);have hlk:q97 (evs (l.take k))≤4611686018427387904:=(by rw[hke,List.take_length];exact hle);obtain⟨s0,hs0⟩:∃s0,q97 (evs (l.take k))=s0:=⟨_,rfl⟩;rw[hs0]at hval hlk ⊢;have hvi:decide ((4096:Int) < (s0:Int))=v:=(by rw[←hval];exact decide_eq_decide.2 (by omega));have HMr2:=q00 (HMr.out);have HVi:=q00 hvi;clear hs0 hval hke hle hvi;go_wp2_with fail;go_ret;exact⟨by rw[←HVi.out];rfl,HMr2.out⟩
end Go.Proofs.YtlfjhgamlkbofaaGreatDoor
namespace Go.Proofs.YtlfjhgamlkbofaaGreatDoor
open Go.RowKit Js
mutual
def wsz:JV→Nat
 | .mk k i t l ks=>24+6 * t.size+6 * ksz ks+qj6 l
def qj6:List JV→Nat
 | []=>0
 | x ::l=>wsz x+qj6 l
end
mutual
theorem jj0:∀v:JV,qh7 v=true→(jwr v).length+4≤wsz v
 | .mk k i t l ks,hr=>by
  rw[qh7,Bool.and_eq_true]at hr
  rw[jwr,wsz]
  have h2:=jo7 true l ks hr.2
  have h3:=jo7 false l ks hr.2
  have h4:=j55 hr.1
  have h5:=ja5 t.data.toList
  have e:t.data.toList.length=t.size:=Array.length_toList
  rw[e]at h5
  (repeat' split) <;> (try simp only[List.length_append,List.length_cons,List.length_nil]) <;> omega
theorem jo7 (obj:Bool):∀(l:List JV) (ks:List ByteArray),qc7 l=true→(q42 obj l ks).length≤qj6 l+6 * ksz ks
 | [],ks,_=>by simp[q42]
 | x ::l,ks,hr=>by
  rw[qc7,Bool.and_eq_true]at hr
  rw[q42,qj6]
  have h1:=jj0 x hr.1
  have h2:=jf2 obj l ks.tail hr.2
  have h3:=qu2 obj ks
  have h4:=qz6 ks
  simp only[List.length_append]
  omega
theorem jf2 (obj:Bool):∀(l:List JV) (ks:List ByteArray),qc7 l=true→(q62 obj l ks).length≤qj6 l+6 * ksz ks
 | [],ks,_=>by simp[q62]
 | x ::l,ks,hr=>by
  rw[qc7,Bool.and_eq_true]at hr
  rw[q62,qj6]
  have h1:=jj0 x hr.1
  have h2:=jf2 obj l ks.tail hr.2
  have h3:=qu2 obj ks
  have h4:=qz6 ks
  simp only[List.length_append,List.length_cons]
  omega
end
theorem js1:∀l m:List JV,qj6 (l++ m)=qj6 l+qj6 m
 | [],m=>by rw[qj6];simp
 | x ::l,m=>by rw[List.cons_append,qj6,qj6,js1 l m];omega
theorem jl3 (n:Nat):wsz (jn n)=24:=by unfold jn;rw[wsz,qj6];rfl
theorem zw (b:Bool):wsz (jb b)=24:=by unfold jb;rw[wsz,qj6];rfl
theorem zl1 (s:ByteArray):wsz (jt s)=24+6 * s.size:=by unfold jt;rw[wsz,qj6];rfl
theorem z15:∀l:List (Nat×Nat),qj6 (l.map jr)=72 * l.length
 | []=>by rw[List.map_nil,qj6];rfl
 | r ::l=>by
  rw[List.map_cons,qj6,z15 l,List.length_cons]
  have:wsz (jr r)=72:=by unfold jr;rw[wsz,qj6,qj6,qj6,jl3,jl3];rfl
  omega
def awX:Ev:=⟨3,0,1,5,0,⟨#[]⟩,fr0⟩
def awY:Ev:=⟨8,0,0,0,0,⟨#[97,10]⟩,⟨8,4,0,0,true,⟨#[104,105]⟩,⟨#[]⟩,[]⟩⟩
theorem qy6:q28 awX=true:=by decide+kernel
theorem jy4:q28 awY=true:=by decide+kernel
theorem zl6:q28 ev0=false:=by decide+kernel
theorem zw1:qd3 awX awY=false:=by decide+kernel
theorem jy7 (e:Ev):qd3 e e=true:=esame_iff.2 rfl
def awFirst:List UInt8:= [30,123,34,107,105,110,100,34,58,51,44,34,116,105,109,101,34,58,49,44,34,115,112,97,99,101,34,58,48,44,34,110,117,109,34,58,53,44,34,109,97,110,121,34,58,48,44,34,116,101,120,116,34,58,34,34,125,10]
theorem jh5:qf2 awX= [7,3,1,0,5,0,0,0]:=by decide+kernel
def awT:List UInt8:=qm2 awX++ qm2 awY
theorem jl7:awT= [awX,awY].flatMap qm2:=by unfold awT;simp
theorem jy5:∀e∈ [awX,awY],q28 e=true:=by
 intro e h;rcases List.mem_cons.1 h with rfl | h
 ·exact qy6
 ·rw[List.mem_singleton.1 h];exact jy4
theorem zb2:∀e∈ [awX],q28 e=true:=fun e h=>by rw[List.mem_singleton.1 h];exact qy6
theorem zl9:qa1 qg8 (qf2 awX)=([awX],0,0):=by have:=jc jt3 [awX] zb2;simpa using this
theorem zm:qa1 qj9 awT=([awX,awY],0,0):=by rw[jl7];exact jc jw9 _ jy5
theorem zl7:qa1 qg8 [7]=([],0,2):=by rw[jc0 (ja7 (by simp) (Option.isNone_iff_eq_none.1 (show(qg8 [7]).isNone=true by decide+kernel)))];rfl
theorem zl8:qa1 qj9 [30,123,125]=([],0,2):=by rw[jc0 (ja7 (by simp) (Option.isNone_iff_eq_none.1 (show(qj9 [30,123,125]).isNone=true by decide+kernel)))];rfl
theorem zb3:qa1 qg8 (qf2 awX++ [7])=([],8,2):=by have:=j22 jt3 [awX] zb2 [7];rw[zl7,if_neg (by decide)]at this;have e: [awX].flatMap qf2=qf2 awX:=(by simp);rw[e]at this;rw[this,jh5];rfl
theorem zb4:qa1 qj9 (awT++ [30,123,125])=([],(awT.length:Int),2):=by have:=j22 jw9 [awX,awY] jy5 [30,123,125];rw[zl8,if_neg (by decide),←jl7]at this;rw[this];simp
theorem jy3:58 < awT.length∧awT.length≤400:=by decide+kernel
theorem zm0 (A:Option Addr) (c:Nat):q79 qf2 [⟨awX,A,c⟩]=.tuple #[str [7,3,1,0,5,0,0,0],.int .i64 0]:=by rw[qi2 (by unfold qn4;simp[qy6])];unfold qr7;simp[jh5]
theorem zm1 (A B:Option Addr) (c d:Nat):q79 qm2 [⟨awX,A,c⟩,⟨awY,B,d⟩]=.tuple #[str awT,.int .i64 0]:=by rw[qi2 (by unfold qn4;simp[qy6,jy4])];unfold qr7 awT;simp
theorem zs4 (A:Option Addr) (c:Nat):q79 qf2 [⟨ev0,A,c⟩]=.tuple #[str [],.int .i64 2]:=qp9 (by unfold qn4;simp[zl6])
def evX:EV:=⟨awX,none,0⟩
def evY:EV:=⟨awY,none,0⟩
def zt5:EV:=⟨ev0,none,0⟩
def cX:Array Value:=ecs none 0 0 awX
def cY:Array Value:=ecs none 0 0 awY
def c0:Array Value:=ecs none 0 0 ev0
def awS:ByteArray:=⟨#[7,3,1,0,5,0,0,0]⟩
def awD:ByteArray:=⟨awT.toArray⟩
theorem qk7 (w:World) (A:Option Addr):Rngs w A 0 []:=⟨rfl,Nat.zero_le _,.inl rfl⟩
theorem EIn.blk {w:World} {b:Nat} {l:List EV} (h:Blk w b 38 (l.flatMap EV.cells).toArray) (hl:l.length≤1000) (hr:∀x∈l,x.e.f.list= []):EIn w (some ⟨b,0,none⟩) l:=by
 refine⟨⟨by omega,.inr ⟨b,0,rfl,h.lt,fun i x hx j u hu=> ?_⟩⟩,fun x hx=> ?_⟩
 ·have hj:j < 14:=(List.getElem?_eq_some_iff.1 hu).1;have h2:=(h.cell (i * 14+j)).trans ((List.getElem?_toArray).trans ((qs1 EV.cells 14 (fun _=>rfl) l i j x hx hj).trans hu));rw[Nat.zero_add];exact h2
 ·rw[hr x hx];exact qk7 _ _
theorem zu6:∀x∈ [evX],x.e.f.list= []:=fun x h=>by rw[List.mem_singleton.1 h];rfl
theorem zu5:∀x∈ [zt5],x.e.f.list= []:=fun x h=>by rw[List.mem_singleton.1 h];rfl
theorem zp1:∀x∈ [evX,evY],x.e.f.list= []:=fun x h=>by
 rcases List.mem_cons.1 h with rfl | h
 ·rfl
 ·rw[List.mem_singleton.1 h];rfl
theorem zm2 (w:World) (b:Nat) (hb:Blk w b 38 cX):Calls Tryz.prog 18 #[.slice (some ⟨b,0,none⟩) 1 1] w fun r w'=>r=.returned (.tuple #[.string awS,.int .i64 0])∧Mod [] w w':=by have h:=jh8 w (some ⟨b,0,none⟩) 1 [evX] (EIn.blk hb (by simp) zu6) (by simp);have e:q79 qf2 [evX]=.tuple #[.string awS,.int .i64 0]:=zm0 none 0;rw[e]at h;exact h
theorem zb5 (w:World) (b:Nat) (hb:Blk w b 38 c0):Calls Tryz.prog 18 #[.slice (some ⟨b,0,none⟩) 1 1] w fun r w'=>r=.returned (.tuple #[.string ⟨#[]⟩,.int .i64 2])∧Mod [] w w':=by have h:=jh8 w (some ⟨b,0,none⟩) 1 [zt5] (EIn.blk hb (by simp) zu5) (by simp);have e:q79 qf2 [zt5]=.tuple #[.string ⟨#[]⟩,.int .i64 2]:=zs4 none 0;rw[e]at h;exact h
theorem zm3 (w:World) (b:Nat) (hb:Blk w b 38 (cX++ cY)) (B:Nat) (hB:B≤w.heap.size) (hj:JVars B w):Calls Tryz.prog 20 #[.slice (some ⟨b,0,none⟩) 2 2] w fun r w'=>r=.returned (.tuple #[.string awD,.int .i64 0])∧Mod [] w w':=by have h:=z10 w (some ⟨b,0,none⟩) 2 [evX,evY] (EIn.blk hb (by simp) zp1) (by simp) B hB hj;have e:q79 qm2 [evX,evY]=.tuple #[.string awD,.int .i64 0]:=zm1 none none 0 0;rw[e]at h;exact h
def js2 (w:World) (n:Nat) (l:List Ev) (r:Ending) (w':World):Prop:=∃(A:Option Addr) (c:Nat) (m:List EV),r=.returned (.tuple #[.slice A n c,.int .i64 0,.int .i64 0])∧EIn w' A m∧m.map EV.e=l∧Mod [] w w'
def za0 (w:World) (n:Nat) (r:Ending) (w':World):Prop:=∃(A:Option Addr) (c k:Nat),r=.returned (.tuple #[.slice A k c,.int .i64 (n:Int),.int .i64 2])∧Mod [] w w'
theorem jy6 {R:One} {w:World} {s:List UInt8} {l:List Ev} {n:Nat} (hn:l.length=n) (h:qa1 R s=(l,0,0)) (hs:s.length≤1000) {r:Ending} {w':World} (hp:qy2 R w s r w'):js2 w n l r w':=by
 subst hn;obtain⟨A,c,m,rfl,hm,ho,hl,mm⟩:=hp;rw[h]at hm ⊢;have e:l.length=m.length:=by have:=congrArg List.length hm;simpa using this.symm
 exact⟨A,c,m,by rw[e],ho.ein (by omega),hm,mm⟩
theorem zb1 {R:One} {w:World} {s:List UInt8} {n:Nat} (h:qa1 R s=([],(n:Int),2)) {r:Ending} {w':World} (hp:qy2 R w s r w'):za0 w n r w':=by obtain⟨A,c,m,rfl,hm,ho,hl,mm⟩:=hp;rw[h];exact⟨A,c,m.length,rfl,mm⟩
theorem jl6:awD.data.toList=awT:=by unfold awD;simp
theorem j62:58 < awD.size∧awD.size≤400:=jy3
theorem zb6 (w:World):Calls Tryz.prog 12 #[.string awS] w (js2 w 1 [awX]):=by refine(j42 w awS (by decide)).mono fun r w' h=>jy6 (l:= [awX]) rfl ?_ (by decide) h;have:=zl9;rw[jh5]at this;exact this
theorem z18 (w:World):Calls Tryz.prog 12 #[.string (awS++ ⟨#[7]⟩)] w (za0 w 8):=by refine(j42 w _ (by decide+kernel)).mono fun r w' h=>zb1 ?_ h;have e:(awS++ ⟨#[7]⟩).data.toList=qf2 awX++ [7]:=(by rw[jh5];simp[awS]);rw[e];exact zb3
theorem zb7 (w:World) (B:Nat) (hB:B≤w.heap.size) (hj:JVars B w):Calls Tryz.prog 14 #[.string awD] w (js2 w 2 [awX,awY]):=by
 refine(j43 w awD (by have:=j62;omega) B hB hj).mono fun r w' h=>jy6 (l:= [awX,awY]) rfl ?_ ?_ h
 ·rw[jl6];exact zm
 ·rw[jl6];have:=jy3;omega
theorem z19 (w:World) (B:Nat) (hB:B≤w.heap.size) (hj:JVars B w):Calls Tryz.prog 14 #[.string (awD++ ⟨#[30,123,125]⟩)] w (za0 w awD.size):=by refine(j43 w _ (by rw[ByteArray.size_append];have:=j62;have:(⟨#[30,123,125]⟩:ByteArray).size=3:=rfl;omega) B hB hj).mono fun r w' h=>zb1 ?_ h;have e:(awD++ ⟨#[30,123,125]⟩).data.toList=awT++ [30,123,125]:=(by simp[awD]);rw[e];exact zb4
theorem j25:awD.extract 0 58=⟨awFirst.toArray⟩:=by decide+kernel
theorem evz:(Tryz.prog.info? 38).map (fun i=>(i.zero,i.size))=some (some (.agg (ecs none 0 0 ev0)),14):=by kernel_rfl
theorem zt6 {l:List EV} {a:Ev} (h:l.map EV.e= [a]):∃x,l= [x]∧x.e=a:=by
 cases l with
 | nil=>simp at h
 | cons x r=>cases r with
  | nil=>exact⟨x,rfl,by simpa using h⟩
  | cons y r=>simp at h
theorem zt7 {l:List EV} {a b:Ev} (h:l.map EV.e= [a,b]):∃x y,l= [x,y]∧y.e=b:=by
 cases l with
 | nil=>simp at h
 | cons x r=>cases r with
  | nil=>simp at h
  | cons y r=>cases r with
   | nil=>simp at h;exact⟨x,y,rfl,h.2⟩
   | cons z r=>simp at h
theorem z17 (w:World) (B:Nat) (hB:B≤w.heap.size) (hj:JVars B w):Calls Tryz.prog 11 #[] w (RPost w true):=by
 have HJ:=q00 (fun w' (m:Mod [] w w')=>hj.mod m hB (by simp));have HBz:=q00 (fun w' (m:Mod [] w w')=>Nat.le_trans hB m.size);have hds:=j62;have HDs:=q00 hds;clear hj hB hds;go_enter Tryz.func11,Tryz.ntmps11;go_upto_region 2 with(first | (refine qk5 rfl 38 _ rfl _ rfl _ rfl cX (by kernel_rfl) ?_) | (refine q06 rfl 38 _ _ rfl rfl _ cX rfl rfl (by kernel_rfl) rfl (by kernel_rfl) ?_;intro w1 m1 b1 s1;have HM1:=q00 m1;have HX1:=q00 b1;clear m1 b1 s1));go_upto_region 3 with(first | (refine qk5 rfl 38 _ rfl _ rfl _ rfl cY (by kernel_rfl) ?_) | (refine q06 rfl 38 _ _ rfl rfl _ cY rfl rfl (by kernel_rfl) rfl (by kernel_rfl) ?_;intro w2 m2 b2 s2;have HM2:=q00 (HM1.out.trans m2 (by simp));have HX2:=q00 (m2.blk HX1.out (by simp));have HY2:=q00 b2;clear m2 b2 s2));go_wp2_with (first | (refine wpList_load_mid rfl 38 _ rfl w.heap.size 0 rfl cX.toList _ HX2.out.range rfl rfl (by kernel_rfl) ?_) | (refine q24 rfl 23 38 1 _ rfl _ rfl Tryz.underlying23 _ 14 evz (by decide) (by decide) [(0,.agg cX.toList.toArray)] rfl cX (by kernel_rfl) ?_;intro w3 m3 b3 s3;have HM3:=q00 (HM2.out.trans m3 (by simp));have HX3:=q00 (m3.blk HX2.out (by simp));have HY3:=q00 (m3.blk HY2.out (by simp));have HB3:=q00 b3;clear m3 b3 s3));refine(zm2 w3 _ HB3.out).mono ?_;rintro e0 w4 ⟨rfl,m4⟩;have HM4:=q00 (HM3.out.trans m4 (by simp));have HX4:=q00 (m4.blk HX3.out (by simp));have HY4:=q00 (m4.blk HY3.out (by simp));clear m4;go_wp2_with fail;refine(zb6 w4).mono ?_;rintro e0 w5 ⟨A1,c1,l1,rfl,h1,e1,m5⟩;have HM5:=q00 (HM4.out.trans m5 (by simp));have HX5:=q00 (m5.blk HX4.out (by simp));have HY5:=q00 (m5.blk HY4.out (by simp));have HE1_5:=q00 h1;have HL1:=q00 e1;clear h1 e1;clear m5;go_wp2_with (first | (refine wpList_load_mid rfl 38 _ rfl w.heap.size 0 rfl cX.toList _ HX5.out.range rfl rfl (by kernel_rfl) ?_) | (refine wpList_load_mid rfl 38 _ rfl w1.heap.size 0 rfl cY.toList _ HY5.out.range rfl rfl (by kernel_rfl) ?_) | (refine q24 rfl 23 38 2 _ rfl _ rfl Tryz.underlying23 _ 14 evz (by decide) (by decide) [(0,.agg cX.toList.toArray),(1,.agg cY.toList.toArray)] rfl (cX++ cY) (by kernel_rfl) ?_;intro w6 m6 b6 s6;have HM6:=q00 (HM5.out.trans m6 (by simp));have HX6:=q00 (m6.blk HX5.out (by simp));have HY6:=q00 (m6.blk HY5.out (by simp));have HE1_6:=q00 (HE1_5.out.new m6);have HB6:=q00 b6;clear m6 b6 s6));refine(zm3 w6 _ HB6.out B (HBz.out _ HM6.out) (HJ.out _ HM6.out)).mono ?_;rintro e0 w7 ⟨rfl,m7⟩;have HM7:=q00 (HM6.out.trans m7 (by simp));have HX7:=q00 (m7.blk HX6.out (by simp));have HY7:=q00 (m7.blk HY6.out (by simp));have HE1_7:=q00 (HE1_6.out.new m7);clear m7;go_wp2_with fail;refine(zb7 w7 B (HBz.out _ HM7.out) (HJ.out _ HM7.out)).mono ?_;rintro e0 w8 ⟨A2,c2,l2,rfl,h2,e2,m8⟩;have HM8:=q00 (HM7.out.trans m8 (by simp));have HX8:=q00 (m8.blk HX7.out (by simp));have HY8:=q00 (m8.blk HY7.out (by simp));have HE1_8:=q00 (HE1_7.out.new m8);have HE2_8:=q00 h2;have HL2:=q00 e2;clear h2 e2;clear m8;go_wp2_with fail;refine(z18 w8).mono ?_;rintro e0 w9 ⟨A3,c3,k3,rfl,m9⟩;have HM9:=q00 (HM8.out.trans m9 (by simp));have HX9:=q00 (m9.blk HX8.out (by simp));have HY9:=q00 (m9.blk HY8.out (by simp));have HE1_9:=q00 (HE1_8.out.new m9);have HE2_9:=q00 (HE2_8.out.new m9);clear m9;have hcc:¬9223372036854775807 < awD.size+3:=by have:=HDs.out;omega
 go_wp2_with fail;refine(z19 w9 B (HBz.out _ HM9.out) (HJ.out _ HM9.out)).mono ?_;rintro e0 w10 ⟨A4,c4,k4,rfl,m10⟩;have HM10:=q00 (HM9.out.trans m10 (by simp));have HX10:=q00 (m10.blk HX9.out (by simp));have HY10:=q00 (m10.blk HY9.out (by simp));have HE1_10:=q00 (HE1_9.out.new m10);have HE2_10:=q00 (HE2_9.out.new m10);clear hcc;clear m10;go_wp2_with (first | (refine qk5 rfl 38 _ rfl _ rfl _ rfl c0 (by kernel_rfl) ?_) | (refine q24 rfl 23 38 1 _ rfl _ rfl Tryz.underlying23 _ 14 evz (by decide) (by decide) [(0,.agg c0)] rfl c0 (by kernel_rfl) ?_;intro w11 m11 b11 s11;have HM11:=q00 (HM10.out.trans m11 (by simp));have HX11:=q00 (m11.blk HX10.out (by simp));have HY11:=q00 (m11.blk HY10.out (by simp));have HE1_11:=q00 (HE1_10.out.new m11);have HE2_11:=q00 (HE2_10.out.new m11);have HB11:=q00 b11;clear m11 b11 s11));refine(zb5 w11 _ HB11.out).mono ?_;rintro e0 w12 ⟨rfl,m12⟩;have HM12:=q00 (HM11.out.trans m12 (by simp));have HX12:=q00 (m12.blk HX11.out (by simp));have HY12:=q00 (m12.blk HY11.out (by simp));have HE1_12:=q00 (HE1_11.out.new m12);have HE2_12:=q00 (HE2_11.out.new m12);clear m12;obtain⟨x1,hx1,hxe⟩:=zt6 HL1.out;obtain⟨y1,y2,hy1,hye⟩:=zt7 HL2.out;subst hx1 hy1;obtain⟨g1,o1,rfl,hg1,hr1⟩:=HE1_12.out.at_ (k:=0) (x:=x1) rfl;obtain⟨g2,o2,rfl,hg2,hr2⟩:=HE2_12.out.at_ (k:=1) (x:=y2) rfl;have R1:=q00 (q64 (S:=Mod [] w12) hr1 hg1 (fun v m=>m));have R2:=q00 (q64 (S:=Mod [] w12) hr2 hg2 (fun v m=>m));have HSx:=q00 (fun w' (m:Mod [] w12 w')=>qt8 w' x1.A none x1.e.f.list.length 0 x1.c 0 x1.e awX ((HE1_12.out.rng x1 (by simp)).new m) (qk7 _ _) true (by rw[hxe];exact jy7 awX));have HSy:=q00 (fun w' (m:Mod [] w12 w')=>qt8 w' y2.A none y2.e.f.list.length 0 y2.c 0 y2.e awY ((HE2_12.out.rng y2 (by simp)).new m) (qk7 _ _) true (by rw[hye];exact jy7 awY));have HSn:=q00 (fun w'=>qt8 w' none none 0 0 0 0 awX awY (qk7 _ _) (qk7 _ _) false zw1);have HMa:=q00 (fun w'=>qi3 w' none 0 0 awX (qk7 _ _) true qy6);have f1:decide (58 < awD.size)=true:=decide_eq_true HDs.out.1;have f2:decide ((58:Int) < (awD.size:Int))=true:=decide_eq_true (by have:=HDs.out.1;omega);have q9:awS.size=8:=rfl;have f3:58≤awD.size:=by have:=HDs.out.1;omega
 have q1:(awS.toList==(⟨#[7,3,1,0,5,0,0,0]⟩:ByteArray).toList)=true:=beq_self_eq_true _;have q4:(awS.toList== [7,3,1,0,5,0,0,0])=true:=(by decide+kernel);have q5:((awD.extract 0 58).toList==(⟨#[30,123,34,107,105,110,100,34,58,51,44,34,116,105,109,101,34,58,49,44,34,115,112,97,99,101,34,58,48,44,34,110,117,109,34,58,53,44,34,109,97,110,121,34,58,48,44,34,116,101,120,116,34,58,34,34,125,10]⟩:ByteArray).toList)=true:=(by rw[j25];exact beq_self_eq_true _);have q6:((awD.extract 0 58).toList== [30,123,34,107,105,110,100,34,58,51,44,34,116,105,109,101,34,58,49,44,34,115,112,97,99,101,34,58,48,44,34,110,117,109,34,58,53,44,34,109,97,110,121,34,58,48,44,34,116,101,120,116,34,58,34,34,125,10])=true:=(by rw[j25];decide+kernel);clear hr1 hr2 hxe hye;go_upto_region 10 with fail;simp only[List.append_eq,List.cons_append,List.nil_append];refine q78 (Mod [] w12) [] [([0,1,2,3,4,5,6,7,8,9,10,11,12,13,14,15],16),([17,18,19,20,21,22,23,24,25,26,27,28,29,30,31,32,33,34,35,36,37,38,39,40,41,42,43,44,45,46,47,48,49],50),([51,52,53,54,55,56,57,58,59,60,61,62,63,64,65,66,67,68,69,70,71,72,73,74,75,76,77,78,79,80,81,82,83,84,85],86),([87,88,89,90],91)] [92,93,94,95,96] (by kernel_rfl) (by kernel_rfl) (fun _ _ _ _ _ h=>h) ((Mod.refl _ w12).drew) ?_;have hc0:=(Mod.refl [] w12).drew;show wpQuiet _ _ _ _ _ _;simp only[gd];(repeat (first | (refine q30 (by kernel_rfl) 38 _ rfl g1 (o1+0 * 14) rfl x1.cells _ R1.out rfl rfl (by kernel_rfl) ?_;simp only[pu]) | (refine q30 (by kernel_rfl) 38 _ rfl w.heap.size (0) rfl cX.toList _ (qc HX12.out (Mod.refl _ w12) HX12.out.lt (by simp)) rfl rfl (by kernel_rfl) ?_;simp only[pu]) | go_big_quiet_step (fail)));refine wpQuiet_nil ?_;go_wp2_with fail;refine(HSx.out _ hc0).mono ?_;rintro e0 w13 ⟨rfl,m0⟩;have hc1:=hc0.trans m0 (by simp);clear m0;go_wp2_with fail;refine Ph.on (fun _=>hc1) ?_;show wpQuiet _ _ _ _ _ _;simp only[gd];(repeat (first | (refine q30 (by kernel_rfl) 38 _ rfl g2 (o2+1 * 14) rfl y2.cells _ R2.out rfl rfl (by kernel_rfl) ?_;simp only[pu]) | (refine q30 (by kernel_rfl) 38 _ rfl w1.heap.size (0) rfl cY.toList _ (qc HY12.out (Mod.refl _ w12) HY12.out.lt (by simp)) rfl rfl (by kernel_rfl) ?_;simp only[pu]) | go_big_quiet_step (fail)));refine wpQuiet_nil ?_;go_wp2_with fail;refine(HSy.out _ hc1).mono ?_;rintro e0 w14 ⟨rfl,m0⟩;have hc2:=hc1.trans m0 (by simp);clear m0;go_wp2_with fail;refine Ph.on (fun _=>hc2) ?_;show wpQuiet _ _ _ _ _ _;simp only[gd];(repeat (first | (refine q30 (by kernel_rfl) 38 _ rfl w.heap.size (0) rfl cX.toList _ (qc HX12.out (Mod.refl _ w12) HX12.out.lt (by simp)) rfl rfl (by kernel_rfl) ?_;simp only[pu]) | go_big_quiet_step (fail)));refine wpQuiet_nil ?_;go_wp2_with fail;refine(HMa.out _).mono ?_;rintro e0 w15 ⟨rfl,m0⟩;have hc3:=hc2.trans m0 (by simp);clear m0;go_wp2_with fail;refine Ph.on (fun _=>hc3) ?_;show wpQuiet _ _ _ _ _ _;simp only[gd];(repeat (first | (refine q30 (by kernel_rfl) 38 _ rfl w.heap.size (0) rfl cX.toList _ (qc HX12.out (Mod.refl _ w12) HX12.out.lt (by simp)) rfl rfl (by kernel_rfl) ?_;simp only[pu]) | (refine q30 (by kernel_rfl) 38 _ rfl w1.heap.size (0) rfl cY.toList _ (qc HY12.out (Mod.refl _ w12) HY12.out.lt (by simp)) rfl rfl (by kernel_rfl) ?_;simp only[pu]) | go_big_quiet_step (fail)));refine wpQuiet_nil ?_;go_wp2_with fail;refine(HSn.out _).mono ?_;rintro e0 w16 ⟨rfl,m0⟩;have hc4:=hc3.trans m0 (by simp);clear m0;go_wp2_with fail;refine Ph.on (fun _=>hc4) ?_;show wpQuiet _ _ _ _ _ _;simp only[gd];(repeat (go_big_quiet_step (fail)));refine wpQuiet_nil ?_;go_wp2_with fail;go_ret;exact⟨rfl,HM12.out.trans hc4 (by simp)⟩
section
variable {w:World} {D:ByteArray} {l:List Ev} {k:Int}
variable {B:Nat}
end
theorem zl5 {l:List EV} (h:q97 (evs l)≤4096):l.length≤204:=by have:=jm5 (evs l);rw[zn8]at this;omega
end Go.Proofs.YtlfjhgamlkbofaaGreatDoor
namespace Go.Proofs.YtlfjhgamlkbofaaGreatDoor
open Go.RowKit Go.Lib
theorem qp7:("*" :String)++ "errors.errorString" = "*errors.errorString" :=by decide
def zg:List (String×DataW Unit):= [("math/bits.deBruijn32tab",Rows.laid_math_bits_deBruijn32tab),("math/bits.deBruijn64tab",Rows.laid_math_bits_deBruijn64tab),("internal/strconv.uint64pow10",Rows.laid_internal_strconv_uint64pow10),("unicode/utf8.acceptRanges",Rows.laid_unicode_utf8_acceptRanges),("strconv.ErrRange",Rows.laid_strconv_ErrRange),("strconv.ErrSyntax",Rows.laid_strconv_ErrSyntax),("unicode/utf8.first",Rows.laid_unicode_utf8_first)]
theorem zk5 {P:Program} {W:World} {n:String} {g:Nat} {cs:Array Value} (hg:P.globalNamed n=some g) (hv:W.var? P n=some cs) (h0:0 < cs.size):g < W.heap.size:=by have h:=World.var?_cell hg hv 0;rw[Array.getElem?_eq_getElem h0]at h;exact World.block_lt_of_cell? W _ h
theorem jd6 {W:World} (h0:laidMetH Tryz.prog zg W):JVars W.heap.size W:=by
 have h:laidMet Tryz.prog zg W:=(by rw[MakeChecks.laidMetH_plain _ _ _ (by kernel_rfl)]at h0;exact h0);unfold zg at h;have hp:=h.tail.tail;have hr:=hp.tail.tail;have hT:TabIs Tryz.prog W "internal/strconv.uint64pow10" .u64 Lib.pow10Tab:=
  tabIs_of_head (g:=1) (t:=225) (e:=33) (n:=20) (by kernel_rfl) (by kernel_rfl) Tryz.underlying225 Tryz.underlying33 (by kernel_rfl) (by kernel_rfl) hp
 have hrow:∀u,Tryz.prog.typeName? 3 u=some "*errors.errorString" →u=239:=(by intro u h;exact typeName_ptr_named (nm:= "errors.errorString") (by rw[qp7];kernel_rfl) (by kernel_rfl) (by decide) u (by rw[qp7];exact h));obtain⟨a,s,hv, -, -, -⟩:=laid_sentinel (g:=5) (ti:=104) (tp:=239) (te:=241) (ts:=9) hr (by kernel_rfl) (by kernel_rfl) Tryz.underlying104 hrow Tryz.underlying239 Tryz.underlying241 rfl rfl Tryz.underlying9 (by kernel_rfl) (by kernel_rfl);intro w' hb;refine⟨?_,_,_,var?_below (g:=5) hb (by kernel_rfl) (zk5 (by kernel_rfl) hv (by simp)) hv⟩;exact var?_below (g:=1) hb (by kernel_rfl) (zk5 (by kernel_rfl) hT (by simp[Lib.pow10Tab])) hT
end Go.Proofs.YtlfjhgamlkbofaaGreatDoor
