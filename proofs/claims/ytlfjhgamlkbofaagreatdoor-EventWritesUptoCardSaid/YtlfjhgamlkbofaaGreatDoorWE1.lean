/-
  Contracts of the functions that the laws of this seat reach, and plain laws, part 8 of 17; no condition.
-/
import Derived.Test.YtlfjhgamlkbofaaGreatDoorWF1
import Derived.Test.YtlfjhgamlkbofaaGreatDoorWC
import Derived.Test.YtlfjhgamlkbofaaGreatDoorWJ3
import Derived.Test.YtlfjhgamlkbofaaGreatDoorWF2
import Derived.Deep.RegionHeld3
import Derived.Deep.Cut
import Derived.Test.YtlfjhgamlkbofaaGreatDoorWF3
set_option linter.unusedVariables false
set_option linter.unusedSimpArgs false
set_option linter.unnecessarySimpa false
set_option maxRecDepth 100000
set_option maxHeartbeats 16000000
namespace Go.Proofs.YtlfjhgamlkbofaaGreatDoor
open Go.RowKit Js
structure Ev where
 kind:Int
 space:Int
 time:Nat
 num:Nat
 many:Nat
 text:ByteArray
 f:Fr
def ev0:Ev:=⟨0,0,0,0,0,⟨#[]⟩,fr0⟩
def Ev.bare (e:Ev):Bool:=qc6 e.f fr0
def qq3 (k:Int):Bool:=decide (k=2) || decide (k=8) || decide (k=9)
def q28 (e:Ev):Bool:=decide (1≤e.kind) && decide (e.kind≤15) && decide (0≤e.space) && decide (e.space≤1) && decide (e.time < 4611686018427387904) && decide (e.num < 4611686018427387904) && decide (e.many < 4611686018427387904) && decide (e.text.size≤16384) && (e.bare || qq3 e.kind && q31 e.f)
def qd3 (a b:Ev):Bool:=decide (a.kind=b.kind) && decide (a.space=b.space) && decide (a.time=b.time) && decide (a.num=b.num) && decide (a.many=b.many) && decide (a.text=b.text) && qc6 a.f b.f
theorem esame_iff {a b:Ev} :qd3 a b=true↔a=b:=by obtain⟨_,_,_,_,_,_,_⟩:=a;obtain⟨_,_,_,_,_,_,_⟩:=b;unfold qd3;simp only[Bool.and_eq_true,decide_eq_true_eq,fsame_iff,Ev.mk.injEq];exact⟨fun ⟨⟨⟨⟨⟨⟨a,b⟩,c⟩,d⟩,e⟩,f⟩,g⟩=>⟨a,b,c,d,e,f,g⟩,fun ⟨a,b,c,d,e,f,g⟩=>⟨⟨⟨⟨⟨⟨a,b⟩,c⟩,d⟩,e⟩,f⟩,g⟩⟩
theorem Ev.bare_iff {e:Ev} :e.bare=true↔e.f=fr0:=fsame_iff
theorem zx0:q31 fr0=false:=by decide+kernel
structure EvOk (e:Ev):Prop where
 k1:1≤e.kind
 k2:e.kind≤15
 s1:0≤e.space
 s2:e.space≤1
 time:e.time < 4611686018427387904
 num:e.num < 4611686018427387904
 many:e.many < 4611686018427387904
 text:e.text.size≤16384
 fr:e.f=fr0∨(qq3 e.kind=true∧q31 e.f=true)
theorem emay_iff {e:Ev} :q28 e=true↔EvOk e:=by unfold q28;simp only[Bool.and_eq_true,Bool.or_eq_true,decide_eq_true_eq,Ev.bare_iff];exact⟨fun ⟨⟨⟨⟨⟨⟨⟨⟨a,b⟩,c⟩,d⟩,e⟩,f⟩,g⟩,h⟩,i⟩=>⟨a,b,c,d,e,f,g,h,i⟩,fun ⟨a,b,c,d,e,f,g,h,i⟩=>⟨⟨⟨⟨⟨⟨⟨⟨a,b⟩,c⟩,d⟩,e⟩,f⟩,g⟩,h⟩,i⟩⟩
def qk9 (l:List UInt8):List UInt8:=q03 l.length++ l
def qa4 (e:Ev):List UInt8:=if e.bare then []else fwS e.f
def qc9 (e:Ev):List UInt8:=q03 e.kind.toNat++ (q03 e.time++ (q03 e.space.toNat++ (q03 e.num++ (q03 e.many++ (qk9 e.text.data.toList++ qk9 (qa4 e))))))
def qf2 (e:Ev):List UInt8:=qk9 (qc9 e)
theorem je1 {e:Ev} (h:q28 e=true):(qa4 e).length≤17000:=by
 unfold qa4
 split
 ·simp
 ·unfold fwS
  split
  ·exact qu0 (by assumption)
  ·simp
theorem j54 (l:List UInt8):(qk9 l).length≤8+l.length:=by unfold qk9;have:=q11 l.length;rw[List.length_append];omega
theorem qt7 {e:Ev} (h:q28 e=true):(qc9 e).length≤40000:=by unfold qc9;have h0:=(emay_iff.1 h).text;have h1:=je1 h;have h2:=j54 e.text.data.toList;have h3:=j54 (qa4 e);have a1:=q11 e.kind.toNat;have a2:=q11 e.time;have a3:=q11 e.space.toNat;have a4:=q11 e.num;have a5:=q11 e.many;rw[q05]at h2;simp only[List.length_append];omega
theorem zn0 {e:Ev} (h:q28 e=true):(qf2 e).length≤40008:=by have:=j54 (qc9 e);have:=qt7 h;unfold qf2;omega
def qc0 (x:List UInt8):Option Fr:=if x= []then some fr0 else match qm6 x with
 | some y=>if y.2= []then some y.1 else none
 | none=>none
def q59 (s:List UInt8):Option Ev:=
 (q58 s).bind fun a=>(q58 a.2).bind fun b=>(q58 b.2).bind fun c=>(q58 c.2).bind fun d=>(q58 d.2).bind fun n=>(q67 n.2).bind fun t=>(q67 t.2).bind fun f=>
  if f.2= []∧a.1≤15∧c.1≤1 then(qc0 f.1).bind fun x=>if q28 ⟨a.1,c.1,b.1,d.1,n.1,tob t.1,x⟩then some ⟨a.1,c.1,b.1,d.1,n.1,tob t.1,x⟩else none
  else none
theorem jm2 {e:Ev} (h:q28 e=true):qc0 (qa4 e)=some e.f:=by
 unfold qa4 qc0;cases hb:e.bare with
 | true=>rw[if_pos rfl,if_pos rfl,Ev.bare_iff.1 hb]
 | false=>
  simp only[Bool.false_eq_true,if_false];rcases(emay_iff.1 h).fr with h1 | ⟨_,h1⟩
  ·rw[Ev.bare_iff.2 h1]at hb;cases hb
  ·unfold fwS;rw[if_pos h1];have h2:=z42 h1 [] (fun _=> .inr rfl);rw[List.append_nil]at h2;have hne:q15 e.f≠ []:=(by intro e0;rw[e0]at h2;have:qm6 []=none:=(by decide+kernel);rw[this]at h2;cases h2);rw[if_neg hne,h2];simp
theorem jt1 {e:Ev} (h:q28 e=true):q59 (qc9 e)=some e:=by have ho:=emay_iff.1 h;have hk:=ho.k1;have hk2:=ho.k2;have hs:=ho.s1;have hs2:=ho.s2;have ht:=ho.text;have hf:=je1 h;unfold q59 qc9 qk9;rw[q29 (by omega)];simp only[Option.bind_some];rw[q29 ho.time];simp only[Option.bind_some];rw[q29 (by omega)];simp only[Option.bind_some];rw[q29 ho.num];simp only[Option.bind_some];rw[q29 ho.many];simp only[Option.bind_some];rw[List.append_assoc,qp5 _ _ (by rw[q05];omega)];simp only[Option.bind_some];have h3:=qp5 (qa4 e) [] (by omega);rw[List.append_nil]at h3;rw[h3];simp only[Option.bind_some];rw[if_pos ⟨trivial,by omega,by omega⟩,jm2 h];simp only[Option.bind_some];have e1:(e.kind.toNat:Int)=e.kind:=(by omega);have e2:(e.space.toNat:Int)=e.space:=(by omega);have e3:tob e.text.data.toList=e.text:=(by unfold tob;simp);rw[e1,e2,e3,if_pos h]
theorem ji1 {x:List UInt8} {f:Fr} (h:qc0 x=some f):(x= []∧f=fr0)∨(x≠ []∧q31 f=true∧x=q15 f):=by
 unfold qc0 at h;by_cases hx:x= []
 ·rw[if_pos hx]at h;cases h;exact .inl ⟨hx,rfl⟩
 ·rw[if_neg hx]at h;cases hr:qm6 x with
  | none=>rw[hr]at h;cases h
  | some y=>
   rw[hr]at h;obtain⟨g,r⟩:=y;simp only at h
   split at h
   ·rename_i h0;cases h;subst h0;obtain⟨h1,h2,_⟩:=ju hr;exact .inr ⟨hx,h1,by rw[List.append_nil]at h2;exact h2⟩
   ·cases h
theorem jm3 {s:List UInt8} {e:Ev} (h:q59 s=some e):q28 e=true∧s=qc9 e:=by
 unfold q59 at h;obtain⟨⟨a,s1⟩,h1,h⟩:=Option.bind_eq_some_iff.1 h;obtain⟨⟨b,s2⟩,h2,h⟩:=Option.bind_eq_some_iff.1 h;obtain⟨⟨c,s3⟩,h3,h⟩:=Option.bind_eq_some_iff.1 h;obtain⟨⟨d,s4⟩,h4,h⟩:=Option.bind_eq_some_iff.1 h;obtain⟨⟨n,s5⟩,h5,h⟩:=Option.bind_eq_some_iff.1 h;obtain⟨⟨t,s6⟩,h6,h⟩:=Option.bind_eq_some_iff.1 h;obtain⟨⟨f,s7⟩,h7,h⟩:=Option.bind_eq_some_iff.1 h;simp only at h1 h2 h3 h4 h5 h6 h7 h
 split at h
 ·rename_i hc;obtain⟨rfl,_,_⟩:=hc;obtain⟨x,h8,h⟩:=Option.bind_eq_some_iff.1 h
  split at h
  ·rename_i hm;cases h;refine⟨hm,?_⟩;obtain⟨g1,_⟩:=q25 h1;obtain⟨g2,_⟩:=q25 h2;obtain⟨g3,_⟩:=q25 h3;obtain⟨g4,_⟩:=q25 h4;obtain⟨g5,_⟩:=q25 h5;obtain⟨g6,_⟩:=qb4 h6;obtain⟨g7,_⟩:=qb4 h7;have hfr:qa4 ⟨a,c,b,d,n,tob t,x⟩=f:=by
    unfold qa4;rcases ji1 h8 with⟨h9,h10⟩ | ⟨h9,h10,h11⟩
    ·rw[if_pos (Ev.bare_iff.2 h10),h9]
    ·have hb:Ev.bare ⟨a,c,b,d,n,tob t,x⟩=false:=by
      cases hb:Ev.bare ⟨a,c,b,d,n,tob t,x⟩with
      | false=>rfl
      | true=>have:x=fr0:=Ev.bare_iff.1 hb;rw[this,zx0]at h10;cases h10
     rw[hb,if_neg (by simp)];unfold fwS;rw[if_pos h10];exact h11.symm
   unfold qc9;rw[hfr,g1,g2,g3,g4,g5,g6,g7];unfold qk9 tob;simp
  ·cases h
 ·cases h
def qg8 (s:List UInt8):Option (Ev×List UInt8):=(q67 s).bind fun x=>if x.1.length≤65536 then(q59 x.1).map fun e=>(e,x.2)else none
theorem z32 {e:Ev} (h:q28 e=true) (r:List UInt8):qg8 (qf2 e++ r)=some (e,r):=by have hl:=qt7 h;unfold qg8 qf2 qk9;rw[List.append_assoc,qp5 _ _ (by omega)];simp only[Option.bind_some];rw[if_pos (by omega),jt1 h];rfl
theorem jt2 {s r:List UInt8} {e:Ev} (h:qg8 s=some (e,r)):q28 e=true∧s=qf2 e++ r:=by
 unfold qg8 at h;obtain⟨⟨x,q⟩,h1,h⟩:=Option.bind_eq_some_iff.1 h;simp only at h
 split at h
 ·obtain⟨e',h2,h3⟩:=Option.map_eq_some_iff.1 h;cases h3;obtain⟨h4,h5⟩:=jm3 h2;obtain⟨h6,_⟩:=qb4 h1;refine⟨h4,?_⟩;unfold qf2 qk9;rw[h6,h5,List.append_assoc]
 ·cases h
theorem zk7 {n:Nat} (h:n < 4611686018427387904):q03 n≠ []:=by rw[jd h];exact zq9 n
theorem jz1 {e:Ev} (h:q28 e=true):qf2 e≠ []:=by unfold qf2 qk9;have:=zk7 (n:=(qc9 e).length) (by have:=qt7 h;omega);simp[this]
abbrev One:=List UInt8→Option (Ev×List UInt8)
def qh (R:One):Nat→List UInt8→Option (List Ev)×List UInt8
 | 0,s=>(none,s)
 | n+1,s=>if s= []then(some [],[])else match R s with
  | none=>(none,s)
  | some x=>match qh R n x.2 with
   | (some l,q)=>(some (x.1 ::l),q)
   | (none,q)=>(none,q)
def qa1 (R:One) (s:List UInt8):List Ev×Int×Int:=match qh R (s.length+1) s with
 | (some l,_)=>(l,0,0)
 | (none,q)=>([],(s.length:Int) - q.length,2)
structure Reads (O:Ev→List UInt8) (R:One):Prop where
 put:∀e r,q28 e=true→R (O e++ r)=some (e,r)
 ne:∀e,q28 e=true→O e≠ []
 may:∀s e r,R s=some (e,r)→q28 e=true∧r.length < s.length
section
variable {O:Ev→List UInt8} {R:One}
theorem jb3 (h:Reads O R):∀(n m:Nat) (s:List UInt8),s.length < n→s.length < m→qh R n s=qh R m s:=by
 intro n;induction n with
 | zero=>intro m s h1;omega
 | succ n ih=>
  intro m s h1 h2;obtain⟨m,rfl⟩:∃k,m=k+1:=⟨m - 1,by omega⟩;rw[qh,qh]
  split
  ·rfl
  ·cases hr:R s with
   | none=>rfl
   | some x=>have:=(h.may s x.1 x.2 hr).2;simp only;rw[ih m x.2 (by omega) (by omega)]
theorem z78 (h:Reads O R):∀(l:List Ev) (s:List UInt8) (n:Nat),(∀e∈l,q28 e=true)→(l.flatMap O++ s).length < n→
  qh R n (l.flatMap O++ s)=match qh R (s.length+1) s with
   | (some m,q)=>(some (l++ m),q)
   | (none,q)=>(none,q):=by
 intro l
 induction l with
 | nil=>
  intro s n _ hn
  rw[show([]:List Ev).flatMap O= []from rfl,List.nil_append,jb3 h n (s.length+1) s (by simpa using hn) (by omega)]
  cases qh R (s.length+1) s with
  | mk a b=>cases a <;> rfl
 | cons e l ih=>
  intro s n hl hn
  obtain⟨n,rfl⟩:∃k,n=k+1:=⟨n - 1,by omega⟩
  have he:=hl e (by simp)
  have hne:=h.ne e he
  rw[List.flatMap_cons,List.append_assoc,qh]
  rw[List.flatMap_cons,List.append_assoc,List.length_append]at hn
  have hpos:0 < (O e).length:=List.length_pos_iff.2 hne
  rw[if_neg (by simp[hne]),h.put e _ he]
  simp only
  rw[ih s n (fun x hx=>hl x (by simp[hx])) (by omega)]
  cases qh R (s.length+1) s with
  | mk a b=>cases a <;> rfl
theorem j22 (h:Reads O R) (l:List Ev) (hl:∀e∈l,q28 e=true) (s:List UInt8):
  qa1 R (l.flatMap O++ s)=if(qa1 R s).2.2=0 then(l++ (qa1 R s).1,0,0)else([],((l.flatMap O).length:Int)+(qa1 R s).2.1,2):=by
 unfold qa1;rw[z78 h l s _ hl (Nat.lt_succ_self _)];cases hr:qh R (s.length+1) s with
 | mk a b=>
  cases a with
  | none=>simp only;rw[if_neg (by decide),List.length_append];simp only[Prod.mk.injEq,true_and,and_true];omega
  | some m=>simp
theorem z84 (R:One):qa1 R []=([],0,0):=by unfold qa1;simp[qh]
theorem jc (h:Reads O R) (l:List Ev) (hl:∀e∈l,q28 e=true):qa1 R (l.flatMap O)=(l,0,0):=by have:=j22 h l hl [];rw[z84,List.append_nil]at this;simpa using this
end
theorem jt3:Reads qf2 qg8:=by refine⟨fun e r h=>z32 h r,fun e h=>jz1 h,fun s e r h=> ?_⟩;obtain⟨h1,h2⟩:=jt2 h;refine⟨h1,?_⟩;have:=List.length_pos_iff.2 (jz1 h1);rw[h2,List.length_append];omega
end Go.Proofs.YtlfjhgamlkbofaaGreatDoor
namespace Go.Proofs.YtlfjhgamlkbofaaGreatDoor
open Go.RowKit
def ecs (A:Option Addr) (n c:Nat) (e:Ev):Array Value:= #[.int .i64 e.kind,.int .i64 e.space,.int .u64 (e.time:Nat),.int .u64 (e.num:Nat),.int .u64 (e.many:Nat),.string e.text,.int .u64 (e.f.kind:Nat),.int .u64 (e.f.a:Nat),.int .u64 (e.f.b:Nat),.int .u64 (e.f.c:Nat),.bool e.f.fin,.string e.f.data,.string e.f.more,.slice A n c]
def q46 (A:Option Addr) (n c:Nat) (e:Ev):Value:=.agg (ecs A n c e)
theorem zx2:q17 none 0 0 fr0=.agg #[.int .u64 0,.int .u64 0,.int .u64 0,.int .u64 0,.bool false,.string ⟨#[]⟩,.string ⟨#[]⟩,.slice none 0 0]:=rfl
theorem jt9 (w:World) (k:Int):Calls Tryz.prog 51 #[.int .i64 k] w fun e w'=>e=.returned (.bool (qq3 k))∧w'=w:=by
 by_cases h2:k=2
 ·subst h2;go_enter Tryz.func51,Tryz.ntmps51;go_wp2_with fail;go_ret;exact⟨rfl,rfl⟩
 by_cases h8:k=8
 ·subst h8;go_enter Tryz.func51,Tryz.ntmps51;go_wp2_with fail;go_ret;exact⟨rfl,rfl⟩
 have e2:(k==2)=false:=(by rw[beq_eq_false_iff_ne];exact h2);have e8:(k==8)=false:=(by rw[beq_eq_false_iff_ne];exact h8);by_cases h9:k=9
 ·subst h9;clear h2 h8;go_enter Tryz.func51,Tryz.ntmps51;go_wp2_with fail;go_ret;exact⟨rfl,rfl⟩
 have e9:(k==9)=false:=(by rw[beq_eq_false_iff_ne];exact h9);have hf:qq3 k=false:=(by unfold qq3;simp[h2,h8,h9]);rw[hf];clear h2 h8 h9 hf;go_enter Tryz.func51,Tryz.ntmps51;go_wp2_with fail;go_ret;exact⟨rfl,rfl⟩
theorem j64 (w:World) (A:Option Addr) (n c:Nat) (e:Ev) (hr:Rngs w A n e.f.list) (v:Bool) (hv:e.bare=v):
  Calls Tryz.prog 50 #[q46 A n c e] w (RPost w v):=by
 have HM:=q00 ((Mod.refl [] w).alloc (.cells (ecs A n c e) 38));have hs:=fun w' (hr:Rngs w' A n e.f.list)=>ql7 w' A none n 0 c 0 e.f fr0 hr (Rngs.nil w') v hv;rw[zx2]at hs;have HS:=q00 hs;have HR:=q00 (hr.new HM.out);clear hs hr hv;unfold q17 fcs at HS;unfold q46 ecs at *;go_enter Tryz.func50,Tryz.ntmps50;go_wp2_with fail;refine(HS.out _ HR.out).mono ?_;rintro e w1 ⟨rfl,m1⟩;go_wp2_with fail;go_ret;exact⟨rfl,HM.out.trans m1 (by simp)⟩
theorem qb2 (w:World) (n:Nat):Calls Tryz.prog 82 #[.int .u64 (n:Nat)] w fun e w'=>e=.returned (str (q03 n))∧Mod [] w w':=by have H:=q00 (jr8 w n);go_enter Tryz.func82,Tryz.ntmps82;go_wp2_with fail;refine H.out.mono ?_;rintro e w1 ⟨rfl,m1⟩;go_wp2_with fail;go_ret;exact⟨rfl,m1⟩
theorem qo3 (w:World) (s:ByteArray) (hs:s.size≤9223372036854700000):Calls Tryz.prog 45 #[.string s] w fun e w'=>e=.returned (str (qk9 s.data.toList))∧Mod [] w w':=by have H:=q00 (qb2 w s.size);have q1:IntKind.u64.wrap (s.size:Int)=(s.size:Int):=IntWalk.u64_in _ (by omega);have hl:=q11 s.size;have hv:(⟨(q03 s.size).toArray⟩:ByteArray).size=(q03 s.size).length:=rfl;have HE:Hid (qk9 s.data.toList=q03 s.size++ s.data.toList):=q00 (by unfold qk9;rw[q05]);obtain⟨p,hp⟩:∃p:ByteArray,(⟨(q03 s.size).toArray⟩:ByteArray)=p:=⟨_,rfl⟩;have HP:=q00 hp;have hpl:p.size≤8:=(by rw[←hp,hv];exact hl);have H1:Hid (Calls Tryz.prog 82 #[.int .u64 (s.size:Nat)] w fun e w'=>e=.returned (.string p)∧Mod [] w w'):=q00 (by have:=H.out;unfold str at this;rw[hp]at this;exact this);clear H hl hv hp;go_enter Tryz.func45,Tryz.ntmps45;go_wp2_with fail;refine H1.out.mono ?_;rintro e w1 ⟨rfl,m1⟩;go_wp2_with fail;go_ret;refine⟨?_,m1⟩;rw[HE.out];have:p.data.toList=q03 s.size:=(by rw[←HP.out]);unfold str;rw[←this];congr 2
theorem qo2 (w:World) (s:ByteArray) (hs:s.size≤9223372036854700000):
  Calls Tryz.prog 69 #[.string s] w fun e w'=>e=.returned (.tuple #[.int .u64 ((q34 s.data.toList).n:Nat),str (q34 s.data.toList).rest,.bool (q34 s.data.toList).ok])∧Mod [] w w':=by
 have H:=q00 (jg8 w s);have hr:=qy s.data.toList;have hsl:=q05 s;obtain⟨t,ht⟩:∃t,q35 s.data.toList=t:=⟨_,rfl⟩;have HK:Hid ((q34 s.data.toList)=⟨t.n,t.rest,decide (t.e=0) && (qj3 t.n==s.size - t.rest.length)⟩):=q00 (by unfold q34;rw[ht,hsl]);rw[ht]at H hr;obtain⟨q,hq⟩:∃q:ByteArray,(⟨t.rest.toArray⟩:ByteArray)=q:=⟨_,rfl⟩;have hql:q.size=t.rest.length:=(by rw[←hq];simp[ByteArray.size]);have hqs:q.size≤s.size:=(by rw[hql];omega);have HQ:=q00 hq;have HQl:=q00 hql;have H1:Hid (Calls Tryz.prog 101 #[.string s] w fun e w'=>e=.returned (.tuple #[.int .u64 (t.n:Nat),.string q,.int .i64 t.e])∧Mod [] w w'):=q00 (by have:=H.out;unfold str at this;rw[hq]at this;exact this);rw[HK.out];clear H hr ht hq hql HK;by_cases he:t.e=0
 ·have e0:(t.e==0)=true:=(by rw[he];rfl);have HS:=q00 (fun w'=>jg7 w' t.n);have hsz:qj3 t.n≤8:=(by unfold qj3;split;omega;exact(qv2 _).2);obtain⟨z,hz⟩:∃z,qj3 t.n=z:=⟨_,rfl⟩;have HE:=q00 he;rw[hz]at hsz ⊢;have HS1:Hid (∀w',Calls Tryz.prog 102 #[.int .u64 t.n] w' fun e w''=>e=.returned (.int .i64 (z:Nat))∧w''=w'):=q00 (by have:=HS.out;rw[hz]at this;exact this);clear he HS hz;go_enter Tryz.func69,Tryz.ntmps69;go_wp2_with fail;refine H1.out.mono ?_;rintro e w1 ⟨rfl,m1⟩;go_wp2_with fail;refine(HS1.out _).mono ?_;rintro e w2 ⟨rfl,rfl⟩;go_wp2_with fail;refine bodyPost_ret (results_tmp3 rfl _ _ _) rfl ?_;refine⟨?_,m1⟩;have e1:((z:Int)==(s.size:Int) - (q.size:Int))=(z==s.size - t.rest.length):=(by rw[Bool.eq_iff_iff,beq_iff_eq,beq_iff_eq];have:=HQl.out;omega);rw[decide_eq_true HE.out,Bool.true_and,←e1];unfold str;rw[HQ.out];rfl
 ·have e0:(t.e==0)=false:=(by rw[beq_eq_false_iff_ne];exact he);have HE:=q00 he;clear he;go_enter Tryz.func69,Tryz.ntmps69;go_wp2_with fail;refine H1.out.mono ?_;rintro e w1 ⟨rfl,m1⟩;go_wp2_with fail;refine bodyPost_ret (results_tmp3 rfl _ _ _) rfl ?_;refine⟨?_,m1⟩;rw[decide_eq_false HE.out,Bool.false_and];unfold str;rw[HQ.out];rfl
theorem zc1 (w:World) (B b:Nat) (l:List UInt8) (h:BldO w B b l) (hB:B≤w.heap.size):
  Calls Tryz.prog 81 #[.pointer (some ⟨b,0,none⟩)] w fun e w'=>e=.returned (str l)∧BldO w' B b l∧BStep B b w w':=by
 have hc:Calls Tryz.prog 81 #[.pointer (some ⟨b,0,none⟩)] w _:=Any.Builder_String_any_k jl9 bldX B b l w h hB;refine hc.mono ?_;rintro e w' ⟨rfl,h1,h2,h3⟩;exact⟨rfl,h1,h2,h3⟩
def el5 (e:Ev):List Nat:= [e.kind.toNat,e.time,e.space.toNat,e.num,e.many]
def q47 (e:Ev) (j:Nat):List UInt8:=((el5 e).take j).flatMap q03
theorem qe5 (e:Ev) (j v:Nat) (h:(el5 e)[j]? =some v):q47 e (j+1)=q47 e j++ q03 v:=by unfold q47;rw[List.take_add_one,h];simp
theorem qd9 (e:Ev) (j:Nat) (h:j≤5):(q47 e j).length≤40:=by
 have key:∀l:List Nat,(l.flatMap q03).length≤8 * l.length:=by
  intro l;induction l with
  | nil=>simp
  | cons a l ih=>have:=q11 a;rw[List.flatMap_cons,List.length_append,List.length_cons];omega
 unfold q47;have h1:=key ((el5 e).take j);have h2:((el5 e).take j).length≤5:=(by rw[List.length_take];simp[el5];omega);omega
theorem j74 (e:Ev):qc9 e=q47 e 5++ (qk9 e.text.data.toList++ qk9 (qa4 e)):=by unfold qc9 q47 el5;simp[List.append_assoc]
theorem qu (s:ByteArray):(⟨(qk9 s.data.toList).toArray⟩:ByteArray).size≤s.size+8:=by have:=j54 s.data.toList;rw[q05]at this;simp only[ByteArray.size,List.size_toArray];have h:s.data.size=s.size:=rfl;omega
def jy1 (w:World) (g b:Nat) (A:Option Addr) (n c:Nat) (e:Ev) (w':World):Prop:=w'.cell? ⟨g,5,none⟩=some (.string e.text)∧BldO w' b b (q47 e 5)∧Mod [] w w'∧b < w'.heap.size∧Blk w' g 38 (ecs A n c e)
theorem jo8 {w w':World} {g b:Nat} {A:Option Addr} {n c:Nat} {e:Ev} {P:ByteArray} (hP:(⟨(q47 e 5).toArray⟩:ByteArray)=P) (hg:g < b) (hb:w.heap.size≤b) (h:jy1 w g b A n c e w'):
  Calls Tryz.prog 81 #[.pointer (some ⟨b,0,none⟩)] w' fun r w''=>r=.returned (.string P)∧jy1 w g b A n c e w'':=by
 obtain⟨h1,h2,h3,h4,h5⟩:=h;have:=zc1 w' b b _ h2 (Nat.le_of_lt h4);unfold str at this;rw[hP]at this;refine this.mono ?_;rintro r w2 ⟨rfl,k1,k2⟩;have k3:=k2.blk h5 (by omega) (by decide);exact⟨rfl,k3.cell 5,k1,k2.mod h3 hb,k1.lt,k3⟩
theorem jo9 {w w':World} {g b:Nat} {A:Option Addr} {n c:Nat} {e:Ev} {x v:ByteArray} (hc:∀w',Calls Tryz.prog 45 #[.string x] w' fun r w''=>r=.returned (.string v)∧Mod [] w' w'') (h:jy1 w g b A n c e w'):
  Calls Tryz.prog 45 #[.string x] w' fun r w''=>r=.returned (.string v)∧jy1 w g b A n c e w'':=by
 obtain⟨h1,h2,h3,h4,h5⟩:=h;refine(hc w').mono ?_;rintro r w2 ⟨rfl,m⟩;have k3:=m.blk h5 (by simp);exact⟨rfl,k3.cell 5,h2.mod m (by simp),h3.trans m (by simp),Nat.lt_of_lt_of_le h4 m.size,k3⟩
theorem z27 (w:World) (A:Option Addr) (n c:Nat) (e:Ev) (hr:Rngs w A n e.f.list) (hm:q28 e=true):
  Calls Tryz.prog 46 #[q46 A n c e] w fun r w'=>r=.returned (str (qc9 e))∧Mod [] w w':=by
 have ho:=emay_iff.1 hm;have hk1:=ho.k1;have hk2:=ho.k2;have hs1:=ho.s1;have hs2:=ho.s2;have htx:=ho.text;obtain⟨kn,hkn⟩:∃kn:Nat,e.kind.toNat=kn:=⟨_,rfl⟩;obtain⟨sn,hsn⟩:∃sn:Nat,e.space.toNat=sn:=⟨_,rfl⟩;have HA0:Hid (q47 e (0+1)=q47 e 0++ q03 kn):=q00 (qe5 e 0 kn (by rw[←hkn];rfl));have HA2:Hid (q47 e (2+1)=q47 e 2++ q03 sn):=q00 (qe5 e 2 sn (by rw[←hsn];rfl));have qk:IntKind.u64.wrap e.kind=(kn:Int):=(by rw[IntWalk.u64_in _ (by omega)];omega);have qs:IntKind.u64.wrap e.space=(sn:Int):=(by rw[IntWalk.u64_in _ (by omega)];omega);obtain⟨g,hg⟩:∃g,w.heap.size=g:=⟨_,rfl⟩;have hx0:=Blk.new w 38 (ecs A n c e);rw[hg]at hx0;have HX0:=q00 hx0;have HM0:=q00 ((Mod.refl [] w).alloc (.cells (ecs A n c e) 38));have HFW:=q00 (fun w' (h:Rngs w' A n e.f.list)=>ju0 w' A n c e.f h);have HR:=q00 (fun w' (m:Mod [] w w')=>hr.new m);have xf:(w.alloc (.cells (ecs A n c e) 38)).rangeAt w.heap.size 6 (fcs A n c e.f).toList:=fun j v hv=>(by rw[hg];have hj:j < 8:=(List.getElem?_eq_some_iff.1 hv).1;rw[hx0.cell (6+j),←hv];have j8:j=0∨j=1∨j=2∨j=3∨j=4∨j=5∨j=6∨j=7:=(by omega);rcases j8 with rfl | rfl | rfl | rfl | rfl | rfl | rfl | rfl <;> rfl);have XF:=q00 xf;have HEf0:=q00 (show qa4 e=if e.bare then []else fwS e.f from rfl);have HG:=q00 hg;have hfl:(wrB e.f).size≤17000:=by
  unfold wrB fwS
  split
  ·rename_i h;have:=qu0 h;simpa [ByteArray.size] using this
  ·decide
 obtain⟨F,hF⟩:∃F,wrB e.f=F:=⟨_,rfl⟩;have HFl:Hid (F.data.toList=fwS e.f):=q00 (by rw[←hF];unfold wrB;simp);rw[hF]at hfl HFW;have HBa:=q00 (fun w' (h:Rngs w' A n e.f.list) (v:Bool) (hv:e.bare=v)=>j64 w' A n c e h v hv);clear hkn hsn hg hx0 hr hm ho xf hF;unfold q46;go_enter Tryz.func46,Tryz.ntmps46;go_wp2_with (refine wpList_load_mid rfl 36 _ rfl w.heap.size 6 rfl (fcs A n c e.f).toList _ XF.out rfl rfl (by kernel_rfl) ?_);have hfw:Calls Tryz.prog 83 #[.agg (fcs A n c e.f).toList.toArray] (w.alloc (.cells (ecs A n c e) 38)) _:=HFW.out _ (HR.out _ HM0.out);refine hfw.mono ?_;rintro e0 w1 ⟨rfl,m1⟩;have hgg:=HG.out;rw[hgg];have HM1:=q00 (HM0.out.trans m1 (by simp));have HK1:=q00 (m1.blk HX0.out (by simp));have XL:=q00 HK1.out.range;clear m1 hfw XF hgg;go_wp2_with (refine wpList_load_mid rfl 38 _ rfl g 0 rfl (ecs A n c e).toList _ XL.out rfl rfl (by kernel_rfl) ?_);cases hb:e.bare with
 | true=>
  have HEf:Hid (qa4 e=(⟨#[]⟩:ByteArray).data.toList):=q00 (by rw[HEf0.out,if_pos hb]);have hba:Calls Tryz.prog 50 #[.agg (ecs A n c e).toList.toArray] w1 _:=HBa.out w1 (HR.out _ HM1.out) true hb;refine hba.mono ?_;rintro e0 w3 ⟨rfl,m3⟩;have HM3:=q00 (HM1.out.trans m3 (by simp));have HK3:=q00 (m3.blk HK1.out (by simp));clear m3 hba XL hb;have c0:w3.cell? ⟨g,0,none⟩=some (.int .i64 e.kind):=HK3.out.cell 0;have c1:w3.cell? ⟨g,1,none⟩=some (.int .i64 e.space):=HK3.out.cell 1;have c2:w3.cell? ⟨g,2,none⟩=some (.int .u64 (e.time:Nat)):=HK3.out.cell 2;have c3:w3.cell? ⟨g,3,none⟩=some (.int .u64 (e.num:Nat)):=HK3.out.cell 3;have c4:w3.cell? ⟨g,4,none⟩=some (.int .u64 (e.many:Nat)):=HK3.out.cell 4;have hgl:=HK3.out.lt;go_wp2_with fail;obtain⟨b,hbb⟩:∃b,w3.heap.size=b:=⟨_,rfl⟩;have hbn:=BldO.new w3 w3.heap.size (Nat.le_refl _);have hmn:=HM3.out.alloc (.cells #[.pointer none,.slice none 0 0] 102);have hkn:=HK3.out.alloc (.cells #[.pointer none,.slice none 0 0] 102);rw[hbb]at hbn;have HBn:Hid (BldO (w3.alloc (.cells #[.pointer none,.slice none 0 0] 102)) b b (q47 e 0)):=q00 hbn;have HMn:=q00 hmn;have HKn:=q00 hkn;have HGb:Hid (g < b):=q00 (by rw[←hbb];exact HK3.out.lt);have HWb:Hid (w.heap.size≤b):=q00 (by rw[←hbb];exact HM3.out.size);rw[hbb];clear hbb hbn hmn hkn c0 c1 c2 c3 c4;go_loopw [29] (fun i wr=>∃j:Nat,j≤5∧i=.int .i64 (j:Int)∧BldO wr b b (q47 e j)∧Blk wr g 38 (ecs A n c e)∧Mod [] w wr) (fun i _=>5 - (intOf i).toNat)
  case atStart=>exact⟨0,by omega,rfl,HBn.out,HKn.out,HMn.out⟩
  case round=>
   clear HBn HKn HMn;obtain⟨j,hj,rfl,hb,hk,hm⟩:=hrel;have j5:j=0∨j=1∨j=2∨j=3∨j=4∨j=5:=(by omega);clear hj;rcases j5 with rfl | rfl | rfl | rfl | rfl | rfl
   ·have hst:q47 e (0+1)=q47 e 0++ q03 kn:=HA0.out;have HSt:=q00 hst;clear hst;have hix:∀w,(Instr.index 89 (.agg #[.int .u64 (kn:Nat),.int .u64 (e.time:Nat),.int .u64 (sn:Nat),.int .u64 (e.num:Nat),.int .u64 (e.many:Nat)]) (.int .i64 0)).run Tryz.prog w=.ok (.int .u64 (kn:Nat)) w:=fun _=>(by kernel_rfl);go_wp2_with fail;refine(qb2 _ _).mono ?_;rintro e0 wp ⟨rfl,mp⟩;have hbl:=hb.mod mp (by simp);have hbk:=mp.blk hk (by simp);have hmw:=hm.trans mp (by simp);have hbs:=BldO.lt hbl;have HBk:=q00 hbk;have HMw:=q00 hmw;have hle:=qd9 e 0 (by omega);have hvl:=q11 kn;have HBl:=q00 hbl;clear hb hk hm hbl hbk hmw mp;go_wp2_with fail;refine(q54 wp b b (q47 e 0) ⟨(q03 kn).toArray⟩ HBl.out (by simp[ByteArray.size];omega) (by omega)).mono ?_;rintro e0 wq ⟨rfl,hb2,hs2⟩;have HB2:Hid (BldO wq b b (q47 e (0+1))):=q00 (by rw[HSt.out];exact hb2);have HK2:=q00 (hs2.blk HBk.out (by have:=HGb.out;omega) (by decide));have HM2:=q00 (hs2.mod HMw.out HWb.out);clear hb2 hs2 hbs hle hvl;go_wp2_with fail;go_roundw
    case rel=>exact⟨1,by omega,by go_num,HB2.out,HK2.out,HM2.out⟩
    case measure=>simp[intOf]
   ·have hst:q47 e (1+1)=q47 e 1++ q03 e.time:=qe5 e 1 _ rfl;have HSt:=q00 hst;clear hst;have hix:∀w,(Instr.index 89 (.agg #[.int .u64 (kn:Nat),.int .u64 (e.time:Nat),.int .u64 (sn:Nat),.int .u64 (e.num:Nat),.int .u64 (e.many:Nat)]) (.int .i64 1)).run Tryz.prog w=.ok (.int .u64 (e.time:Nat)) w:=fun _=>(by kernel_rfl);go_wp2_with fail;refine(qb2 _ _).mono ?_;rintro e0 wp ⟨rfl,mp⟩;have hbl:=hb.mod mp (by simp);have hbk:=mp.blk hk (by simp);have hmw:=hm.trans mp (by simp);have hbs:=BldO.lt hbl;have HBk:=q00 hbk;have HMw:=q00 hmw;have hle:=qd9 e 1 (by omega);have hvl:=q11 e.time;have HBl:=q00 hbl;clear hb hk hm hbl hbk hmw mp;go_wp2_with fail;refine(q54 wp b b (q47 e 1) ⟨(q03 e.time).toArray⟩ HBl.out (by simp[ByteArray.size];omega) (by omega)).mono ?_;rintro e0 wq ⟨rfl,hb2,hs2⟩;have HB2:Hid (BldO wq b b (q47 e (1+1))):=q00 (by rw[HSt.out];exact hb2);have HK2:=q00 (hs2.blk HBk.out (by have:=HGb.out;omega) (by decide));have HM2:=q00 (hs2.mod HMw.out HWb.out);clear hb2 hs2 hbs hle hvl;go_wp2_with fail;go_roundw
    case rel=>exact⟨2,by omega,by go_num,HB2.out,HK2.out,HM2.out⟩
    case measure=>simp[intOf]
   ·have hst:q47 e (2+1)=q47 e 2++ q03 sn:=HA2.out;have HSt:=q00 hst;clear hst;have hix:∀w,(Instr.index 89 (.agg #[.int .u64 (kn:Nat),.int .u64 (e.time:Nat),.int .u64 (sn:Nat),.int .u64 (e.num:Nat),.int .u64 (e.many:Nat)]) (.int .i64 2)).run Tryz.prog w=.ok (.int .u64 (sn:Nat)) w:=fun _=>(by kernel_rfl);go_wp2_with fail;refine(qb2 _ _).mono ?_;rintro e0 wp ⟨rfl,mp⟩;have hbl:=hb.mod mp (by simp);have hbk:=mp.blk hk (by simp);have hmw:=hm.trans mp (by simp);have hbs:=BldO.lt hbl;have HBk:=q00 hbk;have HMw:=q00 hmw;have hle:=qd9 e 2 (by omega);have hvl:=q11 sn;have HBl:=q00 hbl;clear hb hk hm hbl hbk hmw mp;go_wp2_with fail;refine(q54 wp b b (q47 e 2) ⟨(q03 sn).toArray⟩ HBl.out (by simp[ByteArray.size];omega) (by omega)).mono ?_;rintro e0 wq ⟨rfl,hb2,hs2⟩;have HB2:Hid (BldO wq b b (q47 e (2+1))):=q00 (by rw[HSt.out];exact hb2);have HK2:=q00 (hs2.blk HBk.out (by have:=HGb.out;omega) (by decide));have HM2:=q00 (hs2.mod HMw.out HWb.out);clear hb2 hs2 hbs hle hvl;go_wp2_with fail;go_roundw
    case rel=>exact⟨3,by omega,by go_num,HB2.out,HK2.out,HM2.out⟩
    case measure=>simp[intOf]
   ·have hst:q47 e (3+1)=q47 e 3++ q03 e.num:=qe5 e 3 _ rfl;have HSt:=q00 hst;clear hst;have hix:∀w,(Instr.index 89 (.agg #[.int .u64 (kn:Nat),.int .u64 (e.time:Nat),.int .u64 (sn:Nat),.int .u64 (e.num:Nat),.int .u64 (e.many:Nat)]) (.int .i64 3)).run Tryz.prog w=.ok (.int .u64 (e.num:Nat)) w:=fun _=>(by kernel_rfl);go_wp2_with fail;refine(qb2 _ _).mono ?_;rintro e0 wp ⟨rfl,mp⟩;have hbl:=hb.mod mp (by simp);have hbk:=mp.blk hk (by simp);have hmw:=hm.trans mp (by simp);have hbs:=BldO.lt hbl;have HBk:=q00 hbk;have HMw:=q00 hmw;have hle:=qd9 e 3 (by omega);have hvl:=q11 e.num;have HBl:=q00 hbl;clear hb hk hm hbl hbk hmw mp;go_wp2_with fail;refine(q54 wp b b (q47 e 3) ⟨(q03 e.num).toArray⟩ HBl.out (by simp[ByteArray.size];omega) (by omega)).mono ?_;rintro e0 wq ⟨rfl,hb2,hs2⟩;have HB2:Hid (BldO wq b b (q47 e (3+1))):=q00 (by rw[HSt.out];exact hb2);have HK2:=q00 (hs2.blk HBk.out (by have:=HGb.out;omega) (by decide));have HM2:=q00 (hs2.mod HMw.out HWb.out);clear hb2 hs2 hbs hle hvl;go_wp2_with fail;go_roundw
    case rel=>exact⟨4,by omega,by go_num,HB2.out,HK2.out,HM2.out⟩
    case measure=>simp[intOf]
   ·have hst:q47 e (4+1)=q47 e 4++ q03 e.many:=qe5 e 4 _ rfl;have HSt:=q00 hst;clear hst;have hix:∀w,(Instr.index 89 (.agg #[.int .u64 (kn:Nat),.int .u64 (e.time:Nat),.int .u64 (sn:Nat),.int .u64 (e.num:Nat),.int .u64 (e.many:Nat)]) (.int .i64 4)).run Tryz.prog w=.ok (.int .u64 (e.many:Nat)) w:=fun _=>(by kernel_rfl);go_wp2_with fail;refine(qb2 _ _).mono ?_;rintro e0 wp ⟨rfl,mp⟩;have hbl:=hb.mod mp (by simp);have hbk:=mp.blk hk (by simp);have hmw:=hm.trans mp (by simp);have hbs:=BldO.lt hbl;have HBk:=q00 hbk;have HMw:=q00 hmw;have hle:=qd9 e 4 (by omega);have hvl:=q11 e.many;have HBl:=q00 hbl;clear hb hk hm hbl hbk hmw mp;go_wp2_with fail;refine(q54 wp b b (q47 e 4) ⟨(q03 e.many).toArray⟩ HBl.out (by simp[ByteArray.size];omega) (by omega)).mono ?_;rintro e0 wq ⟨rfl,hb2,hs2⟩;have HB2:Hid (BldO wq b b (q47 e (4+1))):=q00 (by rw[HSt.out];exact hb2);have HK2:=q00 (hs2.blk HBk.out (by have:=HGb.out;omega) (by decide));have HM2:=q00 (hs2.mod HMw.out HWb.out);clear hb2 hs2 hbs hle hvl;go_wp2_with fail;go_roundw
    case rel=>exact⟨5,by omega,by go_num,HB2.out,HK2.out,HM2.out⟩
    case measure=>simp[intOf]
   ·have t5:wr.cell? ⟨g,5,none⟩=some (.string e.text):=hk.cell 5;have hbl:=BldO.lt hb;have HB5:=q00 hb;have HM5:=q00 hm;obtain⟨P,hP⟩:∃P:ByteArray,(⟨(q47 e 5).toArray⟩:ByteArray)=P:=⟨_,rfl⟩;obtain⟨T,hT⟩:∃T:ByteArray,(⟨(qk9 e.text.data.toList).toArray⟩:ByteArray)=T:=⟨_,rfl⟩;obtain⟨U,hU⟩:∃U:ByteArray,(⟨(qk9 (⟨#[]⟩:ByteArray).data.toList).toArray⟩:ByteArray)=U:=⟨_,rfl⟩;have hPs:P.size≤40:=(by rw[←hP];have:=qd9 e 5 (Nat.le_refl _);simpa [ByteArray.size] using this);have hTs:T.size≤16400:=(by rw[←hT];have:=qu e.text;have:=htx;omega);have hUs:U.size≤17100:=(by rw[←hU];have:=qu ⟨#[]⟩;have h0:(⟨#[]⟩:ByteArray).size=0:=rfl;omega);have n1:¬9223372036854775807 < P.size+T.size:=(by omega);have n2:¬9223372036854775807 < P.size+T.size+U.size:=(by omega);have HFin:Hid (qc9 e=(P++ T++ U:ByteArray).data.toList):=q00 (by rw[j74,HEf.out,←hP,←hT,←hU];simp);have HP:=q00 hP
    have HTx:Hid (∀(x v:ByteArray),((x=e.text∧v=T)∨(x=⟨#[]⟩∧v=U))→∀w',Calls Tryz.prog 45 #[.string x] w' fun e0 w''=>e0=.returned (.string v)∧Mod [] w' w''):=q00 (by
     rintro x v (⟨hx1,hx2⟩ | ⟨hx1,hx2⟩) w'
     ·rw[hx1,hx2]
      have:=qo3 w' e.text (by omega)
      unfold str at this
      rw[hT]at this
      exact this
     ·rw[hx1,hx2]
      have:=qo3 w' ⟨#[]⟩ (by decide)
      unfold str at this
      rw[hU]at this
      exact this)
    have hbz:b < wr.heap.size:=hbl;have HS0:Hid (wr.drew.cell? ⟨g,5,none⟩=some (.string e.text)∧BldO wr.drew b b (q47 e 5)∧Mod [] w wr.drew∧b < wr.drew.heap.size∧Blk wr.drew g 38 (ecs A n c e)):=q00 ⟨t5,hb.mod (Mod.refl [] wr).drew (by simp),hm.drew,hbz,hk.drew⟩;clear hP hT hU hb hk hm;go_wp2_with fail;go_region_held3 (fun w'=>w'.cell? ⟨g,5,none⟩=some (.string e.text)∧BldO w' b b (q47 e 5)∧Mod [] w w'∧b < w'.heap.size∧Blk w' g 38 (ecs A n c e))
     (first | exact HS0.out | assumption)
     (first
      | (go_at_call 81;refine(jo8 (A:=A) (n:=n) (c:=c) (e:=e) HP.out HGb.out HWb.out (by assumption)).mono ?_;rintro e0 w' ⟨rfl,hS'⟩)
      | (go_at_call 45;refine(jo9 (A:=A) (n:=n) (c:=c) (e:=e) (HTx.out _ _ (by first | exact Or.inl ⟨rfl,rfl⟩ | exact Or.inr ⟨rfl,rfl⟩)) (by assumption)).mono ?_;rintro e0 w' ⟨rfl,hS'⟩))
    all_goals
     go_wp2_with fail
     go_ret
     exact⟨congrArg Ending.returned (by rw[HFin.out];unfold str;exact congrArg Value.string (q36 _).symm),hS'.2.2.1⟩
 | false=>
  have HEf:Hid (qa4 e=F.data.toList):=q00 (by rw[HEf0.out,if_neg (by rw[hb];decide),HFl.out]);have hba:Calls Tryz.prog 50 #[.agg (ecs A n c e).toList.toArray] w1 _:=HBa.out w1 (HR.out _ HM1.out) false hb;refine hba.mono ?_;rintro e0 w3 ⟨rfl,m3⟩;have HM3:=q00 (HM1.out.trans m3 (by simp));have HK3:=q00 (m3.blk HK1.out (by simp));clear m3 hba XL hb;have c0:w3.cell? ⟨g,0,none⟩=some (.int .i64 e.kind):=HK3.out.cell 0;have c1:w3.cell? ⟨g,1,none⟩=some (.int .i64 e.space):=HK3.out.cell 1;have c2:w3.cell? ⟨g,2,none⟩=some (.int .u64 (e.time:Nat)):=HK3.out.cell 2;have c3:w3.cell? ⟨g,3,none⟩=some (.int .u64 (e.num:Nat)):=HK3.out.cell 3;have c4:w3.cell? ⟨g,4,none⟩=some (.int .u64 (e.many:Nat)):=HK3.out.cell 4;have hgl:=HK3.out.lt;go_wp2_with fail;obtain⟨b,hbb⟩:∃b,w3.heap.size=b:=⟨_,rfl⟩;have hbn:=BldO.new w3 w3.heap.size (Nat.le_refl _);have hmn:=HM3.out.alloc (.cells #[.pointer none,.slice none 0 0] 102);have hkn:=HK3.out.alloc (.cells #[.pointer none,.slice none 0 0] 102);rw[hbb]at hbn;have HBn:Hid (BldO (w3.alloc (.cells #[.pointer none,.slice none 0 0] 102)) b b (q47 e 0)):=q00 hbn;have HMn:=q00 hmn;have HKn:=q00 hkn;have HGb:Hid (g < b):=q00 (by rw[←hbb];exact HK3.out.lt);have HWb:Hid (w.heap.size≤b):=q00 (by rw[←hbb];exact HM3.out.size);rw[hbb];clear hbb hbn hmn hkn c0 c1 c2 c3 c4;go_loopw [29] (fun i wr=>∃j:Nat,j≤5∧i=.int .i64 (j:Int)∧BldO wr b b (q47 e j)∧Blk wr g 38 (ecs A n c e)∧Mod [] w wr) (fun i _=>5 - (intOf i).toNat)
  case atStart=>exact⟨0,by omega,rfl,HBn.out,HKn.out,HMn.out⟩
  case round=>
   clear HBn HKn HMn;obtain⟨j,hj,rfl,hb,hk,hm⟩:=hrel;have j5:j=0∨j=1∨j=2∨j=3∨j=4∨j=5:=(by omega);clear hj;rcases j5 with rfl | rfl | rfl | rfl | rfl | rfl
   ·have hst:q47 e (0+1)=q47 e 0++ q03 kn:=HA0.out;have HSt:=q00 hst;clear hst;have hix:∀w,(Instr.index 89 (.agg #[.int .u64 (kn:Nat),.int .u64 (e.time:Nat),.int .u64 (sn:Nat),.int .u64 (e.num:Nat),.int .u64 (e.many:Nat)]) (.int .i64 0)).run Tryz.prog w=.ok (.int .u64 (kn:Nat)) w:=fun _=>(by kernel_rfl);go_wp2_with fail;refine(qb2 _ _).mono ?_;rintro e0 wp ⟨rfl,mp⟩;have hbl:=hb.mod mp (by simp);have hbk:=mp.blk hk (by simp);have hmw:=hm.trans mp (by simp);have hbs:=BldO.lt hbl;have HBk:=q00 hbk;have HMw:=q00 hmw;have hle:=qd9 e 0 (by omega);have hvl:=q11 kn;have HBl:=q00 hbl;clear hb hk hm hbl hbk hmw mp;go_wp2_with fail;refine(q54 wp b b (q47 e 0) ⟨(q03 kn).toArray⟩ HBl.out (by simp[ByteArray.size];omega) (by omega)).mono ?_;rintro e0 wq ⟨rfl,hb2,hs2⟩;have HB2:Hid (BldO wq b b (q47 e (0+1))):=q00 (by rw[HSt.out];exact hb2);have HK2:=q00 (hs2.blk HBk.out (by have:=HGb.out;omega) (by decide));have HM2:=q00 (hs2.mod HMw.out HWb.out);clear hb2 hs2 hbs hle hvl;go_wp2_with fail;go_roundw
    case rel=>exact⟨1,by omega,by go_num,HB2.out,HK2.out,HM2.out⟩
    case measure=>simp[intOf]
   ·have hst:q47 e (1+1)=q47 e 1++ q03 e.time:=qe5 e 1 _ rfl;have HSt:=q00 hst;clear hst;have hix:∀w,(Instr.index 89 (.agg #[.int .u64 (kn:Nat),.int .u64 (e.time:Nat),.int .u64 (sn:Nat),.int .u64 (e.num:Nat),.int .u64 (e.many:Nat)]) (.int .i64 1)).run Tryz.prog w=.ok (.int .u64 (e.time:Nat)) w:=fun _=>(by kernel_rfl);go_wp2_with fail;refine(qb2 _ _).mono ?_;rintro e0 wp ⟨rfl,mp⟩;have hbl:=hb.mod mp (by simp);have hbk:=mp.blk hk (by simp);have hmw:=hm.trans mp (by simp);have hbs:=BldO.lt hbl;have HBk:=q00 hbk;have HMw:=q00 hmw;have hle:=qd9 e 1 (by omega);have hvl:=q11 e.time;have HBl:=q00 hbl;clear hb hk hm hbl hbk hmw mp;go_wp2_with fail;refine(q54 wp b b (q47 e 1) ⟨(q03 e.time).toArray⟩ HBl.out (by simp[ByteArray.size];omega) (by omega)).mono ?_;rintro e0 wq ⟨rfl,hb2,hs2⟩;have HB2:Hid (BldO wq b b (q47 e (1+1))):=q00 (by rw[HSt.out];exact hb2);have HK2:=q00 (hs2.blk HBk.out (by have:=HGb.out;omega) (by decide));have HM2:=q00 (hs2.mod HMw.out HWb.out);clear hb2 hs2 hbs hle hvl;go_wp2_with fail;go_roundw
    case rel=>exact⟨2,by omega,by go_num,HB2.out,HK2.out,HM2.out⟩
    case measure=>simp[intOf]
   ·have hst:q47 e (2+1)=q47 e 2++ q03 sn:=HA2.out;have HSt:=q00 hst;clear hst;have hix:∀w,(Instr.index 89 (.agg #[.int .u64 (kn:Nat),.int .u64 (e.time:Nat),.int .u64 (sn:Nat),.int .u64 (e.num:Nat),.int .u64 (e.many:Nat)]) (.int .i64 2)).run Tryz.prog w=.ok (.int .u64 (sn:Nat)) w:=fun _=>(by kernel_rfl);go_wp2_with fail;refine(qb2 _ _).mono ?_;rintro e0 wp ⟨rfl,mp⟩;have hbl:=hb.mod mp (by simp);have hbk:=mp.blk hk (by simp);have hmw:=hm.trans mp (by simp);have hbs:=BldO.lt hbl;have HBk:=q00 hbk;have HMw:=q00 hmw;have hle:=qd9 e 2 (by omega);have hvl:=q11 sn;have HBl:=q00 hbl;clear hb hk hm hbl hbk hmw mp;go_wp2_with fail;refine(q54 wp b b (q47 e 2) ⟨(q03 sn).toArray⟩ HBl.out (by simp[ByteArray.size];omega) (by omega)).mono ?_;rintro e0 wq ⟨rfl,hb2,hs2⟩;have HB2:Hid (BldO wq b b (q47 e (2+1))):=q00 (by rw[HSt.out];exact hb2);have HK2:=q00 (hs2.blk HBk.out (by have:=HGb.out;omega) (by decide));have HM2:=q00 (hs2.mod HMw.out HWb.out);clear hb2 hs2 hbs hle hvl;go_wp2_with fail;go_roundw
    case rel=>exact⟨3,by omega,by go_num,HB2.out,HK2.out,HM2.out⟩
    case measure=>simp[intOf]
   ·have hst:q47 e (3+1)=q47 e 3++ q03 e.num:=qe5 e 3 _ rfl;have HSt:=q00 hst;clear hst;have hix:∀w,(Instr.index 89 (.agg #[.int .u64 (kn:Nat),.int .u64 (e.time:Nat),.int .u64 (sn:Nat),.int .u64 (e.num:Nat),.int .u64 (e.many:Nat)]) (.int .i64 3)).run Tryz.prog w=.ok (.int .u64 (e.num:Nat)) w:=fun _=>(by kernel_rfl);go_wp2_with fail;refine(qb2 _ _).mono ?_;rintro e0 wp ⟨rfl,mp⟩;have hbl:=hb.mod mp (by simp);have hbk:=mp.blk hk (by simp);have hmw:=hm.trans mp (by simp);have hbs:=BldO.lt hbl;have HBk:=q00 hbk;have HMw:=q00 hmw;have hle:=qd9 e 3 (by omega);have hvl:=q11 e.num;have HBl:=q00 hbl;clear hb hk hm hbl hbk hmw mp;go_wp2_with fail;refine(q54 wp b b (q47 e 3) ⟨(q03 e.num).toArray⟩ HBl.out (by simp[ByteArray.size];omega) (by omega)).mono ?_;rintro e0 wq ⟨rfl,hb2,hs2⟩;have HB2:Hid (BldO wq b b (q47 e (3+1))):=q00 (by rw[HSt.out];exact hb2);have HK2:=q00 (hs2.blk HBk.out (by have:=HGb.out;omega) (by decide));have HM2:=q00 (hs2.mod HMw.out HWb.out);clear hb2 hs2 hbs hle hvl;go_wp2_with fail;go_roundw
    case rel=>exact⟨4,by omega,by go_num,HB2.out,HK2.out,HM2.out⟩
    case measure=>simp[intOf]
   ·have hst:q47 e (4+1)=q47 e 4++ q03 e.many:=qe5 e 4 _ rfl;have HSt:=q00 hst;clear hst;have hix:∀w,(Instr.index 89 (.agg #[.int .u64 (kn:Nat),.int .u64 (e.time:Nat),.int .u64 (sn:Nat),.int .u64 (e.num:Nat),.int .u64 (e.many:Nat)]) (.int .i64 4)).run Tryz.prog w=.ok (.int .u64 (e.many:Nat)) w:=fun _=>(by kernel_rfl);go_wp2_with fail;refine(qb2 _ _).mono ?_;rintro e0 wp ⟨rfl,mp⟩;have hbl:=hb.mod mp (by simp);have hbk:=mp.blk hk (by simp);have hmw:=hm.trans mp (by simp);have hbs:=BldO.lt hbl;have HBk:=q00 hbk;have HMw:=q00 hmw;have hle:=qd9 e 4 (by omega);have hvl:=q11 e.many;have HBl:=q00 hbl;clear hb hk hm hbl hbk hmw mp;go_wp2_with fail;refine(q54 wp b b (q47 e 4) ⟨(q03 e.many).toArray⟩ HBl.out (by simp[ByteArray.size];omega) (by omega)).mono ?_;rintro e0 wq ⟨rfl,hb2,hs2⟩;have HB2:Hid (BldO wq b b (q47 e (4+1))):=q00 (by rw[HSt.out];exact hb2);have HK2:=q00 (hs2.blk HBk.out (by have:=HGb.out;omega) (by decide));have HM2:=q00 (hs2.mod HMw.out HWb.out);clear hb2 hs2 hbs hle hvl;go_wp2_with fail;go_roundw
    case rel=>exact⟨5,by omega,by go_num,HB2.out,HK2.out,HM2.out⟩
    case measure=>simp[intOf]
   ·have t5:wr.cell? ⟨g,5,none⟩=some (.string e.text):=hk.cell 5;have hbl:=BldO.lt hb;have HB5:=q00 hb;have HM5:=q00 hm;obtain⟨P,hP⟩:∃P:ByteArray,(⟨(q47 e 5).toArray⟩:ByteArray)=P:=⟨_,rfl⟩;obtain⟨T,hT⟩:∃T:ByteArray,(⟨(qk9 e.text.data.toList).toArray⟩:ByteArray)=T:=⟨_,rfl⟩;obtain⟨U,hU⟩:∃U:ByteArray,(⟨(qk9 (F:ByteArray).data.toList).toArray⟩:ByteArray)=U:=⟨_,rfl⟩;have hPs:P.size≤40:=(by rw[←hP];have:=qd9 e 5 (Nat.le_refl _);simpa [ByteArray.size] using this);have hTs:T.size≤16400:=(by rw[←hT];have:=qu e.text;have:=htx;omega);have hUs:U.size≤17100:=(by rw[←hU];have:=qu F;omega);have n1:¬9223372036854775807 < P.size+T.size:=(by omega);have n2:¬9223372036854775807 < P.size+T.size+U.size:=(by omega);have HFin:Hid (qc9 e=(P++ T++ U:ByteArray).data.toList):=q00 (by rw[j74,HEf.out,←hP,←hT,←hU];simp);have HP:=q00 hP
    have HTx:Hid (∀(x v:ByteArray),((x=e.text∧v=T)∨(x=F∧v=U))→∀w',Calls Tryz.prog 45 #[.string x] w' fun e0 w''=>e0=.returned (.string v)∧Mod [] w' w''):=q00 (by
     rintro x v (⟨hx1,hx2⟩ | ⟨hx1,hx2⟩) w'
     ·rw[hx1,hx2]
      have:=qo3 w' e.text (by omega)
      unfold str at this
      rw[hT]at this
      exact this
     ·rw[hx1,hx2]
      have:=qo3 w' F (by omega)
      unfold str at this
      rw[hU]at this
      exact this)
    have hbz:b < wr.heap.size:=hbl;have HS0:Hid (wr.drew.cell? ⟨g,5,none⟩=some (.string e.text)∧BldO wr.drew b b (q47 e 5)∧Mod [] w wr.drew∧b < wr.drew.heap.size∧Blk wr.drew g 38 (ecs A n c e)):=q00 ⟨t5,hb.mod (Mod.refl [] wr).drew (by simp),hm.drew,hbz,hk.drew⟩;clear hP hT hU hb hk hm;go_wp2_with fail;go_region_held3 (fun w'=>w'.cell? ⟨g,5,none⟩=some (.string e.text)∧BldO w' b b (q47 e 5)∧Mod [] w w'∧b < w'.heap.size∧Blk w' g 38 (ecs A n c e))
     (first | exact HS0.out | assumption)
     (first
      | (go_at_call 81;refine(jo8 (A:=A) (n:=n) (c:=c) (e:=e) HP.out HGb.out HWb.out (by assumption)).mono ?_;rintro e0 w' ⟨rfl,hS'⟩)
      | (go_at_call 45;refine(jo9 (A:=A) (n:=n) (c:=c) (e:=e) (HTx.out _ _ (by first | exact Or.inl ⟨rfl,rfl⟩ | exact Or.inr ⟨rfl,rfl⟩)) (by assumption)).mono ?_;rintro e0 w' ⟨rfl,hS'⟩))
    all_goals
     go_wp2_with fail
     go_ret
     exact⟨congrArg Ending.returned (by rw[HFin.out];unfold str;exact congrArg Value.string (q36 _).symm),hS'.2.2.1⟩
theorem qi3 (w:World) (A:Option Addr) (n c:Nat) (e:Ev) (hr:Rngs w A n e.f.list) (v:Bool) (hv:q28 e=v):
  Calls Tryz.prog 22 #[q46 A n c e] w (RPost w v):=by
 have HM:=q00 ((Mod.refl [] w).alloc (.cells (ecs A n c e) 38));have HR:=q00 (hr.new HM.out);have HX:=q00 (Blk.new w 38 (ecs A n c e));have HBa:=q00 (fun w' (h:Rngs w' A n e.f.list) (b:Bool) (hb:e.bare=b)=>j64 w' A n c e h b hb);have HFm:=q00 (fun w' (h:Rngs w' A n e.f.list) (b:Bool) (hb:q31 e.f=b)=>qu7 w' A n c e.f h b hb);clear hr;unfold q46 q17 fcs at *;unfold ecs at *;by_cases hk1:e.kind < 1
 ·have hv2:v=false:=by
   rw[←hv];cases hx:q28 e with
   | false=>rfl
   | true=>exact absurd (emay_iff.1 hx).k1 (by omega)
  subst hv2;clear hv;go_enter Tryz.func22,Tryz.ntmps22;go_wp2_with fail;go_ret;exact⟨rfl,HM.out⟩
 by_cases hk2:e.kind > 15
 ·have hv2:v=false:=by
   rw[←hv];cases hx:q28 e with
   | false=>rfl
   | true=>exact absurd (emay_iff.1 hx).k2 (by omega)
  subst hv2;clear hv;go_enter Tryz.func22,Tryz.ntmps22;go_wp2_with fail;go_ret;exact⟨rfl,HM.out⟩
 by_cases hs1:e.space < 0
 ·have hv2:v=false:=by
   rw[←hv];cases hx:q28 e with
   | false=>rfl
   | true=>exact absurd (emay_iff.1 hx).s1 (by omega)
  subst hv2;clear hv;go_enter Tryz.func22,Tryz.ntmps22;go_wp2_with fail;go_ret;exact⟨rfl,HM.out⟩
 by_cases hs2:e.space > 1
 ·have hv2:v=false:=by
   rw[←hv];cases hx:q28 e with
   | false=>rfl
   | true=>exact absurd (emay_iff.1 hx).s2 (by omega)
  subst hv2;clear hv;go_enter Tryz.func22,Tryz.ntmps22;go_wp2_with fail;go_ret;exact⟨rfl,HM.out⟩
 obtain⟨M,hM⟩:∃M,qn3 e.time e.num e.many=M:=⟨_,rfl⟩;by_cases hmx:M < 4611686018427387904;rotate_left
 ·have hv2:v=false:=by
   rw[←hv];cases hx:q28 e with
   | false=>rfl
   | true=>have ho:=emay_iff.1 hx;exact absurd (by rw[←hM];exact max3_lt.2 ⟨ho.time,ho.num,ho.many⟩) hmx
  subst hv2;have h2:decide (4611686018427387903 < M)=true:=decide_eq_true (by omega);have h3:decide ((4611686018427387903:Int) < M)=true:=decide_eq_true (by omega);clear hv hmx;go_enter Tryz.func22,Tryz.ntmps22;go_wp2_with fail;go_ret;exact⟨rfl,HM.out⟩
 have h2:decide (4611686018427387903 < M)=false:=decide_eq_false (by omega);have h3:decide ((4611686018427387903:Int) < M)=false:=decide_eq_false (by omega);by_cases htx:16384 < e.text.size
 ·have hv2:v=false:=by
   rw[←hv];cases hx:q28 e with
   | false=>rfl
   | true=>exact absurd (emay_iff.1 hx).text (by omega)
  subst hv2;have d2:decide (16384 < e.text.size)=true:=decide_eq_true htx;have d3:decide ((16384:Int) < e.text.size)=true:=decide_eq_true (by omega);clear hv hmx htx;go_enter Tryz.func22,Tryz.ntmps22;go_wp2_with fail;go_ret;exact⟨rfl,HM.out⟩
 have d2:decide (16384 < e.text.size)=false:=decide_eq_false htx;have d3:decide ((16384:Int) < e.text.size)=false:=decide_eq_false (by omega);have hsum:q28 e=(e.bare || qq3 e.kind && q31 e.f):=(by obtain⟨m1,m2,m3⟩:=max3_lt.1 (show qn3 e.time e.num e.many < 4611686018427387904 by rw[hM];exact hmx);unfold q28;rw[decide_eq_true (show 1≤e.kind by omega),decide_eq_true (show e.kind≤15 by omega),decide_eq_true (show 0≤e.space by omega),decide_eq_true (show e.space≤1 by omega),decide_eq_true m1,decide_eq_true m2,decide_eq_true m3,decide_eq_true (show e.text.size≤16384 by omega)];rfl);rw[hsum]at hv;have HFr:=q00 (fun w'=>jt9 w' e.kind);clear hsum hmx htx;cases hb:e.bare with
 | true=>rw[hb]at hv;have hv2:v=true:=hv.symm;subst hv2;have HB:=q00 hb;clear hv hb;go_enter Tryz.func22,Tryz.ntmps22;go_wp2_with fail;refine(HBa.out _ HR.out true HB.out).mono ?_;rintro e0 w1 ⟨rfl,m1⟩;go_wp2_with fail;go_ret;exact⟨rfl,HM.out.trans m1 (by simp)⟩
 | false=>
  rw[hb]at hv;have HB:=q00 hb;cases hfr:qq3 e.kind with
  | false=>rw[hfr]at hv HFr;have hv2:v=false:=hv.symm;subst hv2;clear hv hb hfr;go_enter Tryz.func22,Tryz.ntmps22;go_wp2_with fail;refine(HBa.out _ HR.out false HB.out).mono ?_;rintro e0 w1 ⟨rfl,m1⟩;have k0:w1.cell? ⟨w.heap.size,0,none⟩=some (.int .i64 e.kind):=(m1.blk HX.out (by simp)).cell 0;have hl:=(m1.blk HX.out (by simp)).lt;have HM1:=q00 (HM.out.trans m1 (by simp));clear m1;go_wp2_with fail;refine(HFr.out _).mono ?_;rintro e0 w2 ⟨rfl,rfl⟩;go_wp2_with fail;go_ret;exact⟨rfl,HM1.out⟩
  | true=>rw[hfr]at hv HFr;have HV:Hid (q31 e.f=v):=q00 hv;clear hv hb hfr;go_enter Tryz.func22,Tryz.ntmps22;go_wp2_with fail;refine(HBa.out _ HR.out false HB.out).mono ?_;rintro e0 w1 ⟨rfl,m1⟩;have hx1:=m1.blk HX.out (by simp);have k0:w1.cell? ⟨w.heap.size,0,none⟩=some (.int .i64 e.kind):=hx1.cell 0;have k6:w1.cell? ⟨w.heap.size,6,none⟩=some (.int .u64 (e.f.kind:Nat)):=hx1.cell 6;have k7:w1.cell? ⟨w.heap.size,7,none⟩=some (.int .u64 (e.f.a:Nat)):=hx1.cell 7;have k8:w1.cell? ⟨w.heap.size,8,none⟩=some (.int .u64 (e.f.b:Nat)):=hx1.cell 8;have k9:w1.cell? ⟨w.heap.size,9,none⟩=some (.int .u64 (e.f.c:Nat)):=hx1.cell 9;have k10:w1.cell? ⟨w.heap.size,10,none⟩=some (.bool e.f.fin):=hx1.cell 10;have k11:w1.cell? ⟨w.heap.size,11,none⟩=some (.string e.f.data):=hx1.cell 11;have k12:w1.cell? ⟨w.heap.size,12,none⟩=some (.string e.f.more):=hx1.cell 12;have k13:w1.cell? ⟨w.heap.size,13,none⟩=some (.slice A n c):=hx1.cell 13;have hl:=hx1.lt;have HM1:=q00 (HM.out.trans m1 (by simp));have HR1:=q00 (HR.out.new m1);clear m1 hx1;go_wp2_with fail;refine(HFr.out _).mono ?_;rintro e0 w2 ⟨rfl,rfl⟩;go_wp2_with fail;refine(HFm.out _ HR1.out v HV.out).mono ?_;rintro e0 w3 ⟨rfl,m3⟩;go_wp2_with fail;go_ret;exact⟨rfl,HM1.out.trans m3 (by simp)⟩
theorem qt8 (w:World) (A B:Option Addr) (n m c d:Nat) (a b:Ev) (hr:Rngs w A n a.f.list) (hs:Rngs w B m b.f.list) (v:Bool) (hv:qd3 a b=v):
  Calls Tryz.prog 24 #[q46 A n c a,q46 B m d b] w (RPost w v):=by
 have HM:=q00 (((Mod.refl [] w).alloc (.cells (ecs A n c a) 38)).alloc (.cells (ecs B m d b) 38));have HR:=q00 (hr.new HM.out);have HS:=q00 (hs.new HM.out);have HF:=q00 (fun w' (h:Rngs w' A n a.f.list) (k:Rngs w' B m b.f.list) (q:Bool) (hq:qc6 a.f b.f=q)=>ql7 w' A B n m c d a.f b.f h k q hq);clear hr hs;obtain⟨k1,s1,t1,n1,m1,x1,f1⟩:=a;obtain⟨k2,s2,t2,n2,m2,x2,f2⟩:=b;unfold q46 q17 fcs at *;unfold ecs at *;dsimp only at *;by_cases h:k1=k2;rotate_left
 ·have hv2:v=false:=(by rw[←hv];unfold qd3;simp[h]);subst hv2;have e1:(k1==k2)=false:=(by rw[beq_eq_false_iff_ne];omega);clear hv h;go_enter Tryz.func24,Tryz.ntmps24;go_wp2_with fail;go_ret;exact⟨rfl,HM.out⟩
 subst h;by_cases h:s1=s2;rotate_left
 ·have hv2:v=false:=(by rw[←hv];unfold qd3;simp[h]);subst hv2;have e1:(s1==s2)=false:=(by rw[beq_eq_false_iff_ne];omega);clear hv h;go_enter Tryz.func24,Tryz.ntmps24;go_wp2_with fail;go_ret;exact⟨rfl,HM.out⟩
 subst h;by_cases h:t1=t2;rotate_left
 ·have hv2:v=false:=(by rw[←hv];unfold qd3;simp[h]);subst hv2;have e1:((t1:Int)==(t2:Int))=false:=(by rw[beq_eq_false_iff_ne];omega);clear hv h;go_enter Tryz.func24,Tryz.ntmps24;go_wp2_with fail;go_ret;exact⟨rfl,HM.out⟩
 subst h;by_cases h:n1=n2;rotate_left
 ·have hv2:v=false:=(by rw[←hv];unfold qd3;simp[h]);subst hv2;have e1:((n1:Int)==(n2:Int))=false:=(by rw[beq_eq_false_iff_ne];omega);clear hv h;go_enter Tryz.func24,Tryz.ntmps24;go_wp2_with fail;go_ret;exact⟨rfl,HM.out⟩
 subst h;by_cases h:m1=m2;rotate_left
 ·have hv2:v=false:=(by rw[←hv];unfold qd3;simp[h]);subst hv2;have e1:((m1:Int)==(m2:Int))=false:=(by rw[beq_eq_false_iff_ne];omega);clear hv h;go_enter Tryz.func24,Tryz.ntmps24;go_wp2_with fail;go_ret;exact⟨rfl,HM.out⟩
 subst h;by_cases h:x1=x2;rotate_left
 ·have hv2:v=false:=(by rw[←hv];unfold qd3;simp[h]);subst hv2;have e1:(x1.toList==x2.toList)=false:=(by exact qa3 h);clear hv h;go_enter Tryz.func24,Tryz.ntmps24;go_wp2_with fail;go_ret;exact⟨rfl,HM.out⟩
 subst h;have HV:Hid (qc6 f1 f2=v):=q00 (by rw[←hv];unfold qd3;simp);clear hv;go_enter Tryz.func24,Tryz.ntmps24;go_wp2_with fail;refine(HF.out _ HR.out HS.out v HV.out).mono ?_;rintro e0 w1 ⟨rfl,mm⟩;go_wp2_with fail;go_ret;exact⟨rfl,HM.out.trans mm (by simp)⟩
end Go.Proofs.YtlfjhgamlkbofaaGreatDoor
namespace Go.Proofs.YtlfjhgamlkbofaaGreatDoor
open Go.RowKit Js
def ekeys:List ByteArray:= [⟨#[107,105,110,100]⟩,⟨#[116,105,109,101]⟩,⟨#[115,112,97,99,101]⟩,⟨#[110,117,109]⟩,⟨#[109,97,110,121]⟩,⟨#[116,101,120,116]⟩]
def qc1:ByteArray:=⟨#[102,114,97,109,101]⟩
def fkeys:List ByteArray:= [⟨#[107,105,110,100]⟩,⟨#[97]⟩,⟨#[98]⟩,⟨#[99]⟩,⟨#[102,105,110]⟩,⟨#[100,97,116,97]⟩,⟨#[109,111,114,101]⟩,⟨#[108,105,115,116]⟩]
def jn (n:Nat):JV:=.mk 3 (n:Int) ⟨#[]⟩ [] []
def jt (s:ByteArray):JV:=.mk 4 0 s [] []
def jb (b:Bool):JV:=.mk (if b then 2 else 1) 0 ⟨#[]⟩ [] []
def jr (r:Nat×Nat):JV:=.mk 5 0 ⟨#[]⟩ [jn r.1,jn r.2] []
def jfr (f:Fr):JV:=.mk 6 0 ⟨#[]⟩ [jn f.kind,jn f.a,jn f.b,jn f.c,jb f.fin,jt f.data,jt f.more,.mk 5 0 ⟨#[]⟩ (f.list.map jr) []] fkeys
def q37 (e:Ev):JV:=.mk 6 0 ⟨#[]⟩ ([jn e.kind.toNat,jn e.time,jn e.space.toNat,jn e.num,jn e.many,jt e.text]++ if e.bare then []else [jfr e.f]) (ekeys++ if e.bare then []else [qc1])
def q51 (v:JV):Bool:= !(decide (v.k=3) && (decide (0≤v.i) && decide (v.i≤4611686018427387903)))
def q07 (v:JV):Nat:=if q51 v then 0 else v.i.toNat
def qe0 (v:JV):Bool:= !decide (v.k=4)
def j67 (v:JV):Bool:= !decide (v.k=2) && !decide (v.k=1)
def qs4 (v:JV):Bool:=decide (v.k=2)
def j27 (v:JV):Bool:= !(decide (v.k=5) && decide (v.l.length=2))
def jat (v:JV) (i:Nat):JV:=v.l.getD i jv0
def j31 (v:JV):Nat×Nat:=(q07 (jat v 0),q07 (jat v 1))
def qc8 (l:List JV):Bool:=l.any fun x=>j27 x || (q51 (jat x 0) || q51 (jat x 1))
def qs0 (l:List JV):Bool:=l.any j27
def qk1 (v:JV):Bool:= !decide (v.k=5) || qc8 v.l
def q63 (v:JV):List (Nat×Nat):=if qs0 v.l then []else v.l.map j31
def qh4 (v:JV):Fr:=⟨q07 (jat v 0),q07 (jat v 1),q07 (jat v 2),q07 (jat v 3),qs4 (jat v 4),(jat v 5).t,(jat v 6).t,q63 (jat v 7)⟩
def qd1 (v:JV):Bool:= !(decide (v.k=6) && decide (v.ks=fkeys))
def qh0 (v:JV):Bool:=qd1 v || (q51 (jat v 0) || q51 (jat v 1) || q51 (jat v 2) || q51 (jat v 3) || j67 (jat v 4) || qe0 (jat v 5) || qe0 (jat v 6) || qk1 (jat v 7) || !q31 (qh4 v))
def j11 (v:JV):Bool:=decide (6 < v.l.length)
def gev (v:JV):Ev:=⟨q07 (jat v 0),q07 (jat v 2),q07 (jat v 1),q07 (jat v 3),q07 (jat v 4),(jat v 5).t,if j11 v then(if qd1 (jat v 6)then fr0 else qh4 (jat v 6))else fr0⟩
def bev (v:JV):Bool:=q51 (jat v 0) || q51 (jat v 1) || q51 (jat v 2) || q51 (jat v 3) || q51 (jat v 4) || qe0 (jat v 5) || (j11 v && (qh0 (jat v 6) || !decide (v.ks.getD 6 ⟨#[]⟩=qc1)))
def wev (v:JV):Bool:= !(decide (v.k=6) && q27 8 v && decide (6≤v.ks.length) && decide (v.ks.take 6=ekeys) && decide (v.ks.length≤7))
def eof (v:JV):Option Ev:=if wev v then none else if bev v || !q28 (gev v)then none else some (gev v)
theorem q80 {n:Nat} (h:n < 4611686018427387904):q51 (jn n)=false:=by unfold q51 jn JV.k JV.i;simp;omega
theorem qa6 {n:Nat} (h:n < 4611686018427387904):q07 (jn n)=n:=by unfold q07;rw[q80 h];rfl
theorem z33 {k:Nat} {s:Shp} (h:q16 k=some s):k < 64:=by
 rcases Nat.lt_or_ge k 64 with h1 | h1
 ·exact h1
 ·unfold q16 at h
  repeat' (split at h)
  all_goals first | omega | cases h
theorem z39 {f:Fr} (h:q31 f=true):f.kind < 64:=by
 unfold q31 at h;cases hs:q16 f.kind with
 | some s=>exact z33 hs
 | none=>rw[hs]at h;simp only[Bool.and_eq_true]at h;have:=j17 h.2;omega
structure FrOk (f:Fr):Prop where
 kind:f.kind < 64
 a:f.a < 4611686018427387904
 b:f.b < 4611686018427387904
 c:f.c < 4611686018427387904
 data:f.data.size≤16384
 more:f.more.size≤16
 len:f.list.length≤64
 list:∀r∈f.list,r.1 < 4611686018427387904∧r.2 < 4611686018427387904
theorem jg0:∀(l:List (Nat×Nat)) (p:Option Nat),q56 p l=true→∀r∈l,r.1 < 4611686018427387904∧r.2 < 4611686018427387904
 | [],_,_,r,hr=>by cases hr
 | x ::t,p,h,r,hr=>by
  unfold q56 at h
  simp only[Bool.and_eq_true,decide_eq_true_eq]at h
  rcases List.mem_cons.1 hr with rfl | hr
  ·omega
  ·exact jg0 t _ h.2 r hr
theorem qu1 {f:Fr} (h:q31 f=true):FrOk f:=by
 have hk:=z39 h;unfold q31 at h;simp only[Bool.and_eq_true,decide_eq_true_eq]at h;obtain⟨⟨⟨⟨h1,h2⟩,h3⟩,h4⟩,h5⟩:=h;have key:f.more.size≤16∧f.list.length≤64∧∀r∈f.list,r.1 < 4611686018427387904∧r.2 < 4611686018427387904:=by
  cases hs:q16 f.kind with
  | some s=>rw[hs]at h5;unfold qd at h5;simp only[Bool.and_eq_true,decide_eq_true_eq]at h5;have e1:=h5.1.1.2;have e2:=h5.1.1.1.2;exact⟨by omega,by rw[e1];simp,by rw[e1];simp⟩
  | none=>
   rw[hs]at h5;simp only at h5;have hc:=j17 h5;by_cases h0:f.kind=0
   ·obtain⟨_,_,e⟩:=zv h0 h5;rw[e];exact⟨show(0:Nat)≤16 by decide,by simp,by simp⟩
   ·by_cases h8:f.kind=8
    ·obtain⟨_,e⟩:=zy4 h8 h5;rw[e];exact⟨show(0:Nat)≤16 by decide,by simp,by simp⟩
    ·by_cases h24:f.kind=24
     ·obtain⟨_,_,_,hm,e⟩:=zr7 h24 h5;have hl:f.list= []:=(by rw[e]);exact⟨by omega,by rw[hl];simp,by rw[hl];simp⟩
     ·obtain⟨e1,_,_,e4,e5⟩:=zy5 (by omega) h5;unfold rngs at e1;simp only[Bool.and_eq_true,decide_eq_true_eq]at e1;refine⟨?_,e1.2.2,jg0 _ _ e1.1⟩;by_cases h2:f.kind=2
      ·rw[(e4 h2).2.2];decide
      ·have:=(e5 (by omega)).1;omega
 exact⟨hk,h1,h2,h3,h4,key.1,key.2.1,key.2.2⟩
theorem j89 {r:Nat×Nat} (h:r.1 < 4611686018427387904∧r.2 < 4611686018427387904):j31 (jr r)=r∧j27 (jr r)=false∧q51 (jat (jr r) 0)=false∧q51 (jat (jr r) 1)=false:=by refine⟨?_,rfl,q80 h.1,q80 h.2⟩;show(q07 (jn r.1),q07 (jn r.2))=r;rw[qa6 h.1,qa6 h.2]
theorem j32 {l:List (Nat×Nat)} (h:∀r∈l,r.1 < 4611686018427387904∧r.2 < 4611686018427387904):q63 (.mk 5 0 ⟨#[]⟩ (l.map jr) [])=l∧qk1 (.mk 5 0 ⟨#[]⟩ (l.map jr) [])=false:=by
 have h1:qs0 (l.map jr)=false:=(by unfold qs0;rw[List.any_eq_false];intro x hx;obtain⟨r,hr,rfl⟩:=List.mem_map.1 hx;rw[(j89 (h r hr)).2.1];decide);have h2:qc8 (l.map jr)=false:=(by unfold qc8;rw[List.any_eq_false];intro x hx;obtain⟨r,hr,rfl⟩:=List.mem_map.1 hx;obtain⟨_,a,b,c⟩:=j89 (h r hr);rw[a,b,c];decide);constructor
 ·unfold q63;show(if qs0 (l.map jr)then []else(l.map jr).map j31)=l;rw[h1,if_neg (by decide),List.map_map];refine(List.map_congr_left (g:=id) fun r hr=> ?_).trans (List.map_id l);exact(j89 (h r hr)).1
 ·unfold qk1;show(!decide ((5:Int)=5) || qc8 (l.map jr))=false;rw[h2];rfl
theorem ju2 {f:Fr} (h:q31 f=true):qh4 (jfr f)=f∧qh0 (jfr f)=false∧qd1 (jfr f)=false:=by
 have ho:=qu1 h;have hk:f.kind < 4611686018427387904:=by have:=ho.kind;omega
 have hg:qh4 (jfr f)=f:=(by unfold qh4;show(⟨q07 (jn f.kind),q07 (jn f.a),q07 (jn f.b),q07 (jn f.c),qs4 (jb f.fin),f.data,f.more,q63 (.mk 5 0 ⟨#[]⟩ (f.list.map jr) [])⟩:Fr)=f;rw[qa6 hk,qa6 ho.a,qa6 ho.b,qa6 ho.c,(j32 ho.list).1];have:qs4 (jb f.fin)=f.fin:=(by cases f.fin <;> rfl);rw[this]);have hw:qd1 (jfr f)=false:=rfl;refine⟨hg,?_,hw⟩;unfold qh0;rw[hg,hw,h];show(false || (q51 (jn f.kind) || q51 (jn f.a) || q51 (jn f.b) || q51 (jn f.c) || j67 (jb f.fin) || qe0 (jt f.data) || qe0 (jt f.more) || qk1 (.mk 5 0 ⟨#[]⟩ (f.list.map jr) []) || !true))=false;rw[q80 hk,q80 ho.a,q80 ho.b,q80 ho.c,(j32 ho.list).2];cases f.fin <;> rfl
theorem qo:(⟨#[]⟩:ByteArray)=ByteArray.empty:=rfl
theorem qi1 (d n:Nat) (h:0 < d):q27 d (jn n)=true:=by unfold jn;rw[q27,q61];simp[h,qo]
theorem ji7 (d:Nat) (s:ByteArray) (h:0 < d):q27 d (jt s)=true:=by unfold jt;rw[q27,q61];simp[h]
theorem zo6 (d:Nat) (b:Bool) (h:0 < d):q27 d (jb b)=true:=by unfold jb;rw[q27,q61];cases b <;> simp[h,qo]
theorem qo1 {d:Nat} :∀ {l:List JV},(∀x∈l,q27 d x=true)→q61 d l=true
 | [],_=>by rw[q61]
 | x ::l,h=>by rw[q61,h x (by simp),qo1 fun y hy=>h y (by simp[hy])];rfl
theorem zo7 (d:Nat) (r:Nat×Nat) (h:1 < d):q27 d (jr r)=true:=by unfold jr;rw[q27,qo1 (by intro x hx;simp only[List.mem_cons,List.not_mem_nil,or_false]at hx;rcases hx with rfl | rfl <;> exact qi1 _ _ (by omega))];simp[qo];omega
theorem zd9 (d:Nat) (f:Fr) (h:3 < d):q27 d (jfr f)=true:=by
 unfold jfr
 rw[q27,qo1 (by
  intro x hx
  simp only[List.mem_cons,List.not_mem_nil,or_false]at hx
  rcases hx with rfl | rfl | rfl | rfl | rfl | rfl | rfl | rfl
  ·exact qi1 _ _ (by omega)
  ·exact qi1 _ _ (by omega)
  ·exact qi1 _ _ (by omega)
  ·exact qi1 _ _ (by omega)
  ·exact zo6 _ _ (by omega)
  ·exact ji7 _ _ (by omega)
  ·exact ji7 _ _ (by omega)
  ·rw[q27,qo1 (by
    intro x hx
    obtain⟨r,_,rfl⟩:=List.mem_map.1 hx
    exact zo7 _ _ (by omega))]
   simp[qo];omega)]
 simp[fkeys,qo];omega
theorem j56 (e:Ev):q27 8 (q37 e)=true:=by
 unfold q37
 rw[q27,qo1 (by
  intro x hx
  rcases List.mem_append.1 hx with hx | hx
  ·simp only[List.mem_cons,List.not_mem_nil,or_false]at hx
   rcases hx with rfl | rfl | rfl | rfl | rfl | rfl
   ·exact qi1 _ _ (by omega)
   ·exact qi1 _ _ (by omega)
   ·exact qi1 _ _ (by omega)
   ·exact qi1 _ _ (by omega)
   ·exact qi1 _ _ (by omega)
   ·exact ji7 _ _ (by omega)
  ·cases hb:e.bare with
   | true=>rw[hb]at hx;simp at hx
   | false=>
    rw[hb]at hx
    simp only[Bool.false_eq_true,if_false,List.mem_singleton]at hx
    subst hx
    exact zd9 _ _ (by omega))]
 cases hb:e.bare <;> simp[ekeys,qo]
theorem qf8 {n:Nat} (h:n < 4611686018427387904):qh7 (jn n)=true:=by unfold jn;rw[qh7,qc7];simp[j48];omega
theorem qu6 (k:Int) (t:ByteArray):qh7 (.mk k 0 t [] [])=true:=by rw[qh7,qc7];simp[j48]
theorem je9:∀ {l:List JV},(∀x∈l,qh7 x=true)→qc7 l=true
 | [],_=>by rw[qc7]
 | x ::l,h=>by rw[qc7,h x (by simp),je9 fun y hy=>h y (by simp[hy])];rfl
theorem qu5 {k:Int} {t:ByteArray} {l:List JV} {ks:List ByteArray} (h:∀x∈l,qh7 x=true):qh7 (.mk k 0 t l ks)=true:=by rw[qh7,je9 h];simp[j48]
theorem ze6 {f:Fr} (h:q31 f=true):qh7 (jfr f)=true:=by
 have ho:=qu1 h;have hk:=ho.kind;refine qu5 fun x hx=> ?_;simp only[List.mem_cons,List.not_mem_nil,or_false]at hx;rcases hx with rfl | rfl | rfl | rfl | rfl | rfl | rfl | rfl
 ·exact qf8 (by omega)
 ·exact qf8 ho.a
 ·exact qf8 ho.b
 ·exact qf8 ho.c
 ·exact qu6 _ _
 ·exact qu6 _ _
 ·exact qu6 _ _
 ·refine qu5 fun x hx=> ?_;obtain⟨r,hr,rfl⟩:=List.mem_map.1 hx;refine qu5 fun x hx=> ?_;simp only[List.mem_cons,List.not_mem_nil,or_false]at hx;rcases hx with rfl | rfl
  ·exact qf8 (ho.list r hr).1
  ·exact qf8 (ho.list r hr).2
theorem qr9 {e:Ev} (h:q28 e=true) (hb:e.bare=false):q31 e.f=true:=by
 rcases(emay_iff.1 h).fr with h1 | ⟨_,h1⟩
 ·rw[Ev.bare_iff.2 h1]at hb;cases hb
 ·exact h1
theorem qz4 {e:Ev} (h:q28 e=true):qh7 (q37 e)=true:=by
 have ho:=emay_iff.1 h;have h1:=ho.k2;have h2:=ho.s2;refine qu5 fun x hx=> ?_;rcases List.mem_append.1 hx with hx | hx
 ·simp only[List.mem_cons,List.not_mem_nil,or_false]at hx;rcases hx with rfl | rfl | rfl | rfl | rfl | rfl
  ·exact qf8 (by omega)
  ·exact qf8 ho.time
  ·exact qf8 (by omega)
  ·exact qf8 ho.num
  ·exact qf8 ho.many
  ·exact qu6 _ _
 ·cases hb:e.bare with
  | true=>rw[hb]at hx;simp at hx
  | false=>rw[hb]at hx;simp only[Bool.false_eq_true,if_false,List.mem_singleton]at hx;subst hx;exact ze6 (qr9 h hb)
theorem z30 {e:Ev} (h:q28 e=true):eof (q37 e)=some e:=by
 have ho:=emay_iff.1 h;have h1:=ho.k1;have h2:=ho.k2;have h3:=ho.s1;have h4:=ho.s2;have hw:wev (q37 e)=false:=(by unfold wev;rw[j56];cases hb:e.bare <;> simp[q37,hb,JV.k,JV.ks,ekeys]);have q0:∀t,jat (.mk 6 0 ⟨#[]⟩ ([jn e.kind.toNat,jn e.time,jn e.space.toNat,jn e.num,jn e.many,jt e.text]++ t) (ekeys++ if e.bare then []else [qc1])) 0=jn e.kind.toNat:=fun _=>rfl;have e1:((q07 (jn e.kind.toNat):Nat):Int)=e.kind:=(by rw[qa6 (by omega)];omega);have e2:((q07 (jn e.space.toNat):Nat):Int)=e.space:=(by rw[qa6 (by omega)];omega);have hg:gev (q37 e)=e∧bev (q37 e)=false:=by
  cases hb:e.bare with
  | true=>
   have hf:=Ev.bare_iff.1 hb;have ev:q37 e=.mk 6 0 ⟨#[]⟩ [jn e.kind.toNat,jn e.time,jn e.space.toNat,jn e.num,jn e.many,jt e.text] ekeys:=(by unfold q37;rw[hb];rfl);rw[ev];constructor
   ·show(⟨(q07 (jn e.kind.toNat):Nat),(q07 (jn e.space.toNat):Nat),q07 (jn e.time),q07 (jn e.num),q07 (jn e.many),e.text,fr0⟩:Ev)=e;rw[e1,e2,qa6 ho.time,qa6 ho.num,qa6 ho.many,←hf]
   ·show(q51 (jn e.kind.toNat) || q51 (jn e.time) || q51 (jn e.space.toNat) || q51 (jn e.num) || q51 (jn e.many) || qe0 (jt e.text) || (false && _))=false;rw[q80 (by omega),q80 ho.time,q80 (by omega),q80 ho.num,q80 ho.many];rfl
  | false=>
   have hm:=qr9 h hb;obtain⟨g1,g2,g3⟩:=ju2 hm;have ev:q37 e=.mk 6 0 ⟨#[]⟩ [jn e.kind.toNat,jn e.time,jn e.space.toNat,jn e.num,jn e.many,jt e.text,jfr e.f] (ekeys++ [qc1]):=(by unfold q37;rw[hb];rfl);rw[ev];constructor
   ·show(⟨(q07 (jn e.kind.toNat):Nat),(q07 (jn e.space.toNat):Nat),q07 (jn e.time),q07 (jn e.num),q07 (jn e.many),e.text,if qd1 (jfr e.f)then fr0 else qh4 (jfr e.f)⟩:Ev)=e;rw[e1,e2,qa6 ho.time,qa6 ho.num,qa6 ho.many,g1,g3];rfl
   ·show(q51 (jn e.kind.toNat) || q51 (jn e.time) || q51 (jn e.space.toNat) || q51 (jn e.num) || q51 (jn e.many) || qe0 (jt e.text) || (true && (qh0 (jfr e.f) || !decide (qc1=qc1))))=false;rw[q80 (by omega),q80 ho.time,q80 (by omega),q80 ho.num,q80 ho.many,g2];simp[qe0,jt,JV.k]
 unfold eof;rw[hw,hg.2,hg.1,h];rfl
def qj7:List UInt8→Option (List UInt8×List UInt8)
 | []=>none
 | c ::t=>if c=10 then some ([],t)else(qj7 t).map fun x=>(c ::x.1,x.2)
theorem je0:∀(p r:List UInt8),10∉p→qj7 (p++ 10 ::r)=some (p,r)
 | [],r,_=>by rw[List.nil_append,qj7,if_pos rfl]
 | c ::p,r,h=>by
  rw[List.cons_append,qj7,if_neg (fun e=>h (by simp[e])),je0 p r (fun e=>h (by simp[e]))]
  rfl
theorem qq:∀ {s a b:List UInt8},qj7 s=some (a,b)→s=a++ 10 ::b
 | [],a,b,h=>by cases h
 | c ::s,a,b,h=>by
  rw[qj7]at h
  split at h
  ·rename_i e;cases h;rw[e];rfl
  ·obtain⟨x,hx,h2⟩:=Option.map_eq_some_iff.1 h
   cases h2
   have:=qq (s:=s) (a:=x.1) (b:=x.2) hx
   rw[List.cons_append,←this]
def qm2 (e:Ev):List UInt8:=30 ::(jwr (q37 e)++ [10])
def qj9 (s:List UInt8):Option (Ev×List UInt8):=(qj7 s).bind fun x=>if x.1.head? =some 30 then(if(q81 x.1.tail).2.2=0 then(eof (q81 x.1.tail).1).map fun e=>(e,x.2)else none)else none
theorem zt4 (c:UInt8):(10:UInt8)∉esc c:=by have h:∀n:Fin 256,(10:UInt8)∉esc (UInt8.ofNat n.val):=(by decide+kernel);have:=h ⟨c.toNat,c.toNat_lt⟩;simpa using this
theorem zi3 (s:List UInt8):(10:UInt8)∉quo s:=by
 unfold quo;intro h;rcases List.mem_cons.1 h with h | h
 ·exact absurd h (by decide)
 ·rcases List.mem_append.1 h with h | h
  ·obtain⟨c,_,hc⟩:=List.mem_flatMap.1 h;exact zt4 c hc
  ·exact absurd (List.mem_singleton.1 h) (by decide)
theorem zc5 (n:Nat):(10:UInt8)∉Lib.decDigits n:=by intro h;have:=List.all_eq_true.1 (qy8 n).1 10 h;exact absurd this (by decide)
theorem zo4 (i:Int):(10:UInt8)∉Lib.itoa i:=by
 unfold Lib.itoa
 split
 ·intro h;rcases List.mem_cons.1 h with h | h
  ·exact absurd h (by decide)
  ·exact zc5 _ h
 ·exact zc5 _
theorem je7 (obj:Bool) (ks:List ByteArray):(10:UInt8)∉q73 obj ks:=by
 unfold q73
 split
 ·intro h;rcases List.mem_append.1 h with h | h
  ·exact zi3 _ h
  ·exact absurd (List.mem_singleton.1 h) (by decide)
 ·simp
mutual
theorem ju7:∀v:JV,(10:UInt8)∉jwr v
 | .mk k i t l ks=>by
  rw[jwr]
  split
  ·decide
  ·split
   ·decide
   ·split
    ·decide
    ·split
     ·exact zo4 i
     ·split
      ·exact zi3 _
      ·split
       ·intro h
        rcases List.mem_cons.1 h with h | h
        ·exact absurd h (by decide)
        ·rcases List.mem_append.1 h with h | h
         ·exact jz9 true l ks h
         ·exact absurd (List.mem_singleton.1 h) (by decide)
       ·intro h
        rcases List.mem_cons.1 h with h | h
        ·exact absurd h (by decide)
        ·rcases List.mem_append.1 h with h | h
         ·exact jz9 false l ks h
         ·exact absurd (List.mem_singleton.1 h) (by decide)
theorem jz9 (obj:Bool):∀(l:List JV) (ks:List ByteArray),(10:UInt8)∉q42 obj l ks
 | [],ks=>by rw[q42];simp
 | x ::l,ks=>by
  rw[q42]
  intro h
  rcases List.mem_append.1 h with h | h
  ·rcases List.mem_append.1 h with h | h
   ·exact je7 obj ks h
   ·exact ju7 x h
  ·exact jo5 obj l _ h
theorem jo5 (obj:Bool):∀(l:List JV) (ks:List ByteArray),(10:UInt8)∉q62 obj l ks
 | [],ks=>by rw[q62];simp
 | x ::l,ks=>by
  rw[q62]
  intro h
  simp only[List.mem_cons,List.mem_append]at h
  rcases h with h | h
  ·exact absurd h (by decide)
  ·rcases h with(h | h) | h
   ·exact je7 obj ks h
   ·exact ju7 x h
   ·exact jo5 obj l _ h
end
theorem z93 {e:Ev} (h:q28 e=true) (r:List UInt8):qj9 (qm2 e++ r)=some (e,r):=by
 unfold qj9 qm2;have hc:qj7 (30 ::(jwr (q37 e)++ [10])++ r)=some (30 ::jwr (q37 e),r):=by
  have:=je0 (30 ::jwr (q37 e)) r (fun h=>by
   rcases List.mem_cons.1 h with h | h
   ·exact absurd h (by decide)
   ·exact ju7 _ h)
  simpa using this
 have key:∀x:JV×Int×Int,x=(q37 e,0,0)→(if x.2.2=0 then(eof x.1).map fun e=>(e,r)else none)=some (e,r):=(by rintro _ rfl;rw[if_pos rfl,z30 h];rfl);rw[hc];exact key _ (ze5 (j56 e) (qz4 h))
theorem zn {v:JV} {e:Ev} (h:eof v=some e):q28 e=true:=by
 unfold eof at h
 split at h
 ·cases h
 ·split at h
  ·cases h
  ·rename_i h2;cases h;simp only[Bool.or_eq_true,Bool.not_eq_true',not_or,Bool.not_eq_false]at h2;exact h2.2
theorem jw9:Reads qm2 qj9:=by
 refine⟨fun e r h=>z93 h r,fun e _=>by unfold qm2;simp,fun s e r h=> ?_⟩;unfold qj9 at h;obtain⟨⟨a,b⟩,h1,h⟩:=Option.bind_eq_some_iff.1 h;simp only at h
 split at h
 ·split at h
  ·obtain⟨e',h2,h3⟩:=Option.map_eq_some_iff.1 h;cases h3;refine⟨zn h2,?_⟩;rw[qq h1];simp;omega
  ·cases h
 ·cases h
end Go.Proofs.YtlfjhgamlkbofaaGreatDoor
namespace Go.Proofs.YtlfjhgamlkbofaaGreatDoor
open Go.RowKit
structure EV where
 e:Ev
 A:Option Addr
 c:Nat
def EV.val (x:EV):Value:=q46 x.A x.e.f.list.length x.c x.e
def EV.cells (x:EV):List Value:=(ecs x.A x.e.f.list.length x.c x.e).toList
structure EIn (w:World) (A:Option Addr) (l:List EV):Prop where
 els:Elems w A EV.cells 14 l
 rng:∀x∈l,Rngs w x.A x.e.f.list.length x.e.f.list
theorem EIn.new {w w':World} {A:Option Addr} {l:List EV} (h:EIn w A l) (m:Mod [] w w'):EIn w' A l:=⟨h.els.new m,fun x hx=>(h.rng x hx).new m⟩
def qr7 (O:Ev→List UInt8) (l:List EV):List UInt8:=(l.map EV.e).flatMap O
def qn4 (l:List EV):Bool:=l.all fun x=>q28 x.e
theorem j16 (O:Ev→List UInt8) (l:List EV) (x:EV):qr7 O (l++ [x])=qr7 O l++ O x.e:=by unfold qr7;simp
theorem j15 (l:List EV) (x:EV):qn4 (l++ [x])=(qn4 l && q28 x.e):=by unfold qn4;simp
theorem z05 {O:Ev→List UInt8} {N:Nat} (hO:∀e,q28 e=true→(O e).length≤N):∀l:List EV,qn4 l=true→(qr7 O l).length≤N * l.length
 | [],_=>by simp[qr7]
 | x ::l,h=>by
  unfold qn4 at h
  rw[List.all_cons,Bool.and_eq_true]at h
  have h1:=z05 hO l h.2
  have h2:=hO x.e h.1
  have:qr7 O (x ::l)=O x.e++ qr7 O l:=rfl
  rw[this,List.length_append,List.length_cons,Nat.mul_add]
  omega
theorem q96 {α:Type} {l:List α} {j:Nat} {x:α} (h:l[j]? =some x):l.take (j+1)=l.take j++ [x]:=by rw[List.take_add_one,h];rfl
def q79 (O:Ev→List UInt8) (l:List EV):Value:=.tuple #[str (if qn4 l then qr7 O l else []),.int .i64 (if qn4 l then 0 else 2)]
theorem qp9 {O:Ev→List UInt8} {l:List EV} (h:qn4 l=false):q79 O l=.tuple #[str [],.int .i64 2]:=by unfold q79;rw[h];rfl
theorem qi2 {O:Ev→List UInt8} {l:List EV} (h:qn4 l=true):q79 O l=.tuple #[str (qr7 O l),.int .i64 0]:=by unfold q79;rw[h];rfl
theorem zb9 (w:World) (A:Option Addr) (n c:Nat) (e:Ev) (hr:Rngs w A n e.f.list) (hm:q28 e=true):
  Calls Tryz.prog 44 #[q46 A n c e] w fun r w'=>r=.returned (str (qf2 e))∧Mod [] w w':=by
 have HM:=q00 ((Mod.refl [] w).alloc (.cells (ecs A n c e) 38));have hle:=qt7 hm;obtain⟨D,hD⟩:∃D:ByteArray,(⟨(qc9 e).toArray⟩:ByteArray)=D:=⟨_,rfl⟩;have hds:D.size≤40000:=(by rw[←hD];exact hle);have hl:=z27 _ A n c e (hr.new HM.out) hm;unfold str at hl;rw[hD]at hl;have HL:=q00 hl;have HT:=q00 (fun w'=>qo3 w' D (by omega));have HE:Hid (qf2 e=qk9 D.data.toList):=q00 (by rw[←hD];rfl);have XL:=q00 (Blk.new w 38 (ecs A n c e)).range;clear hr hm hle hD hl;unfold q46 at *;go_enter Tryz.func44,Tryz.ntmps44;go_wp2_with (refine wpList_load_mid rfl 38 _ rfl w.heap.size 0 rfl (ecs A n c e).toList _ XL.out rfl rfl (by kernel_rfl) ?_);have hl:Calls Tryz.prog 46 #[.agg (ecs A n c e).toList.toArray] _ _:=HL.out;refine hl.mono ?_;rintro e0 w1 ⟨rfl,m1⟩;have HM1:=q00 (HM.out.trans m1 (by simp));clear m1 hl;go_wp2_with fail;refine(HT.out _).mono ?_;rintro e0 w2 ⟨rfl,m2⟩;go_wp2_with fail;go_ret;exact⟨by rw[HE.out];rfl,HM1.out.trans m2 (by simp)⟩
theorem jy2 (w:World) (A:Option Addr) (c:Nat) (l:List EV) (h:EIn w A l) (hl:l.length≤100000) (g:Nat) (O:Ev→List UInt8) (hO:∀e,q28 e=true→(O e).length≤1100000)
  (hent:∀args w,(callFunc g args).run Tryz.prog w=.ok (.enter g args) w)
  (hg:∀w',Mod [] w w'→∀x∈l,q28 x.e=true→Calls Tryz.prog g #[x.val] w' fun r w''=>r=.returned (str (O x.e))∧Mod [] w' w''):
  Calls Tryz.prog 43 #[.slice A l.length c,.func (.func g) #[] #[]] w fun r w'=>r=.returned (q79 O l)∧Mod [] w w':=by
 have HE:=q00 h;have HG:=q00 hg;have HO:=q00 hO;obtain⟨b,hb⟩:∃b,w.heap.size=b:=⟨_,rfl⟩;have hbn:=BldO.new w w.heap.size (Nat.le_refl _);have HM0:=q00 ((Mod.refl [] w).alloc (.cells #[.pointer none,.slice none 0 0] 102));rw[hb]at hbn;have HB0:Hid (BldO (w.alloc (.cells #[.pointer none,.slice none 0 0] 102)) b b (qr7 O (l.take 0))):=q00 hbn;have HW:=q00 (Nat.le_of_eq hb);have hll:=h.els.len;clear h hg hO hbn;go_enter Tryz.func43,Tryz.ntmps43;go_wp2_with fail;clear hb;go_loopw [11] (fun i wr=>∃k:Nat,i=.int .i64 (k:Int)∧k≤l.length∧BldO wr b b (qr7 O (l.take k))∧Mod [] w wr∧qn4 (l.take k)=true) (fun i _=>l.length - (intOf i).toNat)
 case atStart=>exact⟨0,rfl,Nat.zero_le _,HB0.out,HM0.out,rfl⟩
 case round=>
  clear HB0 HM0;obtain⟨k,rfl,hk,hbd,hm,hmay⟩:=hrel;have HBd:=q00 hbd;have HM:=q00 hm;have HMay:=q00 hmay;have hbs:=hbd.lt;clear hbd hm hmay;by_cases hlt:k < l.length
  ·obtain⟨x,hx⟩:∃x,l[k]? =some x:=⟨_,List.getElem?_eq_getElem hlt⟩;have HX:=q00 hx;obtain⟨gx,o,rfl,hgx,hcl⟩:=HE.out.els.at_ hx;have xl:wr.rangeAt gx (o+k * 14) x.cells:=fun j v hv=>(HM.out.cell (p:=⟨gx,o+k * 14+j,none⟩) hgx (by simp)).trans (hcl j v hv);have XL:=q00 xl;clear xl hcl hx;go_wp2_with (first | (refine wpList_load_mid rfl 38 _ rfl gx (o+k * 14) rfl x.cells _ XL.out rfl rfl (by kernel_rfl) ?_) | (refine q06 rfl 38 _ _ rfl rfl _ x.cells.toArray rfl rfl (by kernel_rfl) rfl (by kernel_rfl) ?_;intro w3 m3 b3 s3;have HM3:=q00 (HM.out.trans m3 (by simp));have HBd3:=q00 (HBd.out.mod m3 (by simp));have HX3:=q00 b3;have XL2:=q00 b3.range;clear m3 b3 s3 XL) | (refine wpList_load_mid rfl 38 _ rfl wr.heap.size 0 rfl x.cells _ XL2.out rfl rfl (by kernel_rfl) ?_));have hr3:=(HE.out.rng x (List.mem_of_getElem? HX.out)).new HM3.out;obtain⟨v,hv⟩:∃v,q28 x.e=v:=⟨_,rfl⟩;have hmy:Calls Tryz.prog 22 #[.agg x.cells.toArray] w3 _:=qi3 w3 x.A x.e.f.list.length x.c x.e hr3 v hv;have HV:=q00 hv;clear hr3 hv;refine hmy.mono ?_;rintro e0 w4 ⟨rfl,m4⟩;have HM4:=q00 (HM3.out.trans m4 (by simp));have HBd4:=q00 (HBd3.out.mod m4 (by simp));have HX4:=q00 (m4.blk HX3.out (by simp));clear hmy m4 XL2;cases v with
   | false=>have hno:qn4 l=false:=(by unfold qn4;rw[List.all_eq_false];exact⟨x,List.mem_of_getElem? HX.out,by rw[HV.out];decide⟩);have HNo:=q00 hno;clear hno;go_wp2_with fail;go_ret2;exact⟨by rw[qp9 HNo.out];rfl,HM4.out⟩
   | true=>
    have XL4:=q00 HX4.out.range;go_wp2_with (refine wpList_load_mid rfl 38 _ rfl wr.heap.size 0 rfl x.cells _ XL4.out rfl rfl (by kernel_rfl) ?_);have hone:Calls Tryz.prog g #[.agg x.cells.toArray] w4 _:=HG.out w4 HM4.out x (List.mem_of_getElem? HX.out) HV.out;refine hone.mono ?_;rintro e0 w5 ⟨rfl,m5⟩;have hol:=HO.out x.e HV.out;have htl:=z05 HO.out (l.take k) HMay.out;have htk:(l.take k).length≤k:=List.length_take_le _ _;have hb5:=HBd4.out.mod m5 (by simp);have hlb:=hb5.lt;have hsz:(qr7 O (l.take k)).length+(⟨(O x.e).toArray⟩:ByteArray).size≤140737488355328:=by have e1:(⟨(O x.e).toArray⟩:ByteArray).size=(O x.e).length:=rfl;rw[e1];have:1100000 * (l.take k).length≤1100000 * k:=Nat.mul_le_mul_left _ htk;omega
    have HB5:=q00 hb5;have HM5:=q00 (HM4.out.trans m5 (by simp));have HSz:=q00 hsz;have hlb2:b≤w5.heap.size:=Nat.le_of_lt hlb;clear hone m5 XL4 hol htl htk hb5 hsz hlb;go_wp2_with fail;refine(q54 w5 b b (qr7 O (l.take k)) ⟨(O x.e).toArray⟩ HB5.out HSz.out hlb2).mono ?_;rintro e0 w6 ⟨rfl,hb6,hs6⟩;have HB6:Hid (BldO w6 b b (qr7 O (l.take (k+1)))):=q00 (by rw[q96 HX.out,j16];exact hb6);have HM6:=q00 (hs6.mod HM5.out HW.out);have HMay6:Hid (qn4 (l.take (k+1))=true):=q00 (by rw[q96 HX.out,j15,HMay.out,HV.out];rfl);clear hb6 hs6 hlb2;go_wp2_with fail;go_roundw
    case rel=>exact⟨k+1,by go_num,by omega,HB6.out,HM6.out,HMay6.out⟩
    case measure=>simp[intOf];omega
  ·have hkl:k=l.length:=(by omega);have HKl:=q00 hkl;clear hkl;go_wp2_with fail;refine(qb1 wr b b _ HBd.out (Nat.le_of_lt hbs)).mono ?_;rintro e0 w3 ⟨rfl,hs3⟩;go_wp2_with fail;go_ret2;have hall:qn4 l=true:=by have:=HMay.out;rw[HKl.out,List.take_length]at this;exact this
   rw[qi2 hall];have hkk:=HKl.out;subst hkk;rw[List.take_length];exact⟨rfl,hs3.mod HM.out HW.out⟩
theorem jh8 (w:World) (A:Option Addr) (c:Nat) (l:List EV) (h:EIn w A l) (hl:l.length≤100000):
  Calls Tryz.prog 18 #[.slice A l.length c] w fun r w'=>r=.returned (q79 qf2 l)∧Mod [] w w':=by
 have H:=q00 (jy2 w A c l h hl 44 qf2 (fun e he=>by have:=zn0 he;omega) (fun args w=>by kernel_rfl) (fun w' m x hx hm=>zb9 w' x.A x.e.f.list.length x.c x.e ((h.rng x hx).new m) hm));obtain⟨S,N,hS⟩:∃S N,q79 qf2 l=.tuple #[S,N]:=⟨_,_,rfl⟩;rw[hS]at H ⊢;clear h hS;go_enter Tryz.func18,Tryz.ntmps18;go_wp2_with fail;refine H.out.mono ?_;rintro e0 w1 ⟨rfl,m1⟩;go_wp2_with fail;go_ret2;exact⟨rfl,m1⟩
def jc8 (s:List UInt8):Value:=match q67 s with
 | some x=> .tuple #[str x.1,str x.2,.bool true]
 | none=> .tuple #[str [],str [],.bool false]
theorem qp8 {s:List UInt8} (h:q67 s=none):jc8 s=.tuple #[str [],str [],.bool false]:=by unfold jc8;rw[h]
theorem qv0 {s a b:List UInt8} (h:q67 s=some (a,b)):jc8 s=.tuple #[str a,str b,.bool true]:=by unfold jc8;rw[h]
theorem jk2 (q:ByteArray) (n:Nat):(.string (q.extract 0 n):Value)=str (q.data.toList.take n):=by unfold str;congr 1;apply qd2;rw[Lib.extract_data];simp
theorem jk3 (q:ByteArray) (n:Nat):(.string (q.extract n q.size):Value)=str (q.data.toList.drop n):=by unfold str;congr 1;apply qd2;rw[Lib.extract_data,List.take_of_length_le (by rw[List.length_drop,q05];omega)]
theorem qt9 (w:World) (s:ByteArray) (hs:s.size≤9223372036854700000):
  Calls Tryz.prog 34 #[.string s] w fun r w'=>r=.returned (jc8 s.data.toList)∧Mod [] w w':=by
 have H:=qo2 w s hs;obtain⟨t,ht⟩:∃t,q34 s.data.toList=t:=⟨_,rfl⟩;have hrl:=qv8 s.data.toList;have hnl:=jc4 s.data.toList;rw[ht]at H hrl hnl;rw[q05]at hrl;obtain⟨q,hq⟩:∃q:ByteArray,(⟨t.rest.toArray⟩:ByteArray)=q:=⟨_,rfl⟩;have hql:q.size=t.rest.length:=(by rw[←hq];rfl);have hqd:q.data.toList=t.rest:=(by rw[←hq]);have hqs:q.size≤9223372036854700000:=(by omega);unfold str at H;rw[hq]at H;have H1:=q00 H;have HQd:=q00 hqd;have HT:=q00 ht;have HQl:=q00 hql;have qw:IntKind.u64.wrap (q.size:Int)=(q.size:Int):=IntWalk.u64_in _ (by omega);clear H hq hql hqd hrl ht;cases hok:t.ok with
 | false=>have HNo:Hid (q67 s.data.toList=none):=q00 (by unfold q67 q58;rw[HT.out,hok];rfl);rw[hok]at H1;clear hok;go_enter Tryz.func34,Tryz.ntmps34;go_wp2_with fail;refine H1.out.mono ?_;rintro e0 w1 ⟨rfl,m1⟩;go_wp2_with fail;refine bodyPost_ret (results_tmp3 rfl _ _ _) rfl ?_;exact⟨by rw[qp8 HNo.out];rfl,m1⟩
 | true=>
  rw[hok]at H1;have HP:Hid (q67 s.data.toList=qg9 t.n t.rest):=q00 (by unfold q67 q58;rw[HT.out,hok];rfl);clear hok;by_cases hn:t.n≤q.size
  ·have HY:Hid (q67 s.data.toList=some (t.rest.take t.n,t.rest.drop t.n)):=q00 (by rw[HP.out];unfold qg9;rw[if_pos (by have:=HQl.out;omega)]);have n0:(0:Int)≤(t.n:Int):=(by omega);have n1:(t.n:Int)≤(q.size:Int):=(by omega);have n2:¬q.size < t.n:=(by omega);go_enter Tryz.func34,Tryz.ntmps34;go_wp2_with fail;refine H1.out.mono ?_;rintro e0 w1 ⟨rfl,m1⟩;have HM1:=q00 m1;clear m1;go_wp2_with fail;go_quiet (fail);go_wp2_with fail;refine bodyPost_ret (results_tmp3 rfl _ _ _) rfl ?_;refine⟨?_,HM1.out.drewN _⟩;rw[qv0 HY.out,←HQd.out,←jk2,←jk3];rfl
  ·have HNo:Hid (q67 s.data.toList=none):=q00 (by rw[HP.out];unfold qg9;rw[if_neg (by have:=HQl.out;omega)]);have n2:q.size < t.n:=(by omega);clear hn;go_enter Tryz.func34,Tryz.ntmps34;go_wp2_with fail;refine H1.out.mono ?_;rintro e0 w1 ⟨rfl,m1⟩;go_wp2_with fail;refine bodyPost_ret (results_tmp3 rfl _ _ _) rfl ?_;exact⟨by rw[qp8 HNo.out];rfl,m1⟩
end Go.Proofs.YtlfjhgamlkbofaaGreatDoor
namespace Go.Proofs.YtlfjhgamlkbofaaGreatDoor
open Go.RowKit Js
mutual
def jsz:JV→Nat
 | .mk k i t l ks=>t.size+ksz ks+qj1 l+1
def qj1:List JV→Nat
 | []=>0
 | x ::l=>jsz x+qj1 l
end
mutual
theorem ju8:∀v:JV,qh7 v=true→(jwr v).length+9≤30 * jsz v
 | .mk k i t l ks,hr=>by
  rw[qh7,Bool.and_eq_true]at hr
  rw[jwr,jsz]
  have h2:=z00 true l ks hr.2
  have h3:=z00 false l ks hr.2
  have h4:=j55 hr.1
  have h5:=ja5 t.data.toList
  have e:t.data.toList.length=t.size:=Array.length_toList
  rw[e]at h5
  (repeat' split) <;> (try simp only[List.length_append,List.length_cons,List.length_nil]) <;> omega
theorem z00 (obj:Bool):∀(l:List JV) (ks:List ByteArray),qc7 l=true→(q42 obj l ks).length≤30 * qj1 l+6 * ksz ks
 | [],ks,_=>by simp[q42]
 | x ::l,ks,hr=>by
  rw[qc7,Bool.and_eq_true]at hr
  rw[q42,qj1]
  have h1:=ju8 x hr.1
  have h2:=jo6 obj l ks.tail hr.2
  have h3:=qu2 obj ks
  have h4:=qz6 ks
  simp only[List.length_append]
  omega
theorem jo6 (obj:Bool):∀(l:List JV) (ks:List ByteArray),qc7 l=true→(q62 obj l ks).length≤30 * qj1 l+6 * ksz ks
 | [],ks,_=>by simp[q62]
 | x ::l,ks,hr=>by
  rw[qc7,Bool.and_eq_true]at hr
  rw[q62,qj1]
  have h1:=ju8 x hr.1
  have h2:=jo6 obj l ks.tail hr.2
  have h3:=qu2 obj ks
  have h4:=qz6 ks
  simp only[List.length_append,List.length_cons]
  omega
end
theorem jo1:∀l m:List JV,qj1 (l++ m)=qj1 l+qj1 m
 | [],m=>by rw[qj1];simp
 | x ::l,m=>by rw[List.cons_append,qj1,qj1,jo1 l m];omega
theorem ji9 (n:Nat):jsz (jn n)=1:=by unfold jn;rw[jsz,qj1];rfl
theorem zu2 (b:Bool):jsz (jb b)=1:=by unfold jb;rw[jsz,qj1];rfl
theorem ze7 (s:ByteArray):jsz (jt s)=s.size+1:=by unfold jt;rw[jsz,qj1];rfl
theorem jz7:∀l:List (Nat×Nat),qj1 (l.map jr)=3 * l.length
 | []=>by rw[List.map_nil,qj1];rfl
 | r ::l=>by
  rw[List.map_cons,qj1,jz7 l,List.length_cons]
  have:jsz (jr r)=3:=by unfold jr;rw[jsz,qj1,qj1,qj1,ji9,ji9];rfl
  omega
theorem zu1 {e:Ev} (h:q28 e=true):jsz (q37 e)≤34000:=by
 have ho:=emay_iff.1 h;have ht:=ho.text;unfold q37;rw[jsz,jo1];simp only[qj1,ji9,ze7];have hk:∀b:Bool,ksz (ekeys++ if b then []else [qc1])≤100:=(by decide+kernel);have:=hk e.bare;have h0:(⟨#[]⟩:ByteArray).size=0:=rfl;cases hb:e.bare with
 | true=>rw[hb]at this;simp only[if_true,qj1]at this ⊢;omega
 | false=>have hf:=qu1 (qr9 h hb);have h1:=hf.data;have h2:=hf.more;have h3:=hf.len;rw[hb]at this;have hks:ksz fkeys≤100:=(by decide+kernel);have hj:jsz (jfr e.f)≤e.f.data.size+e.f.more.size+3 * e.f.list.length+200:=(by unfold jfr;rw[jsz];simp only[qj1,ji9,zu2,ze7];rw[jsz,jz7];have h9:ksz []=0:=rfl;omega);simp only[Bool.false_eq_true,if_false,qj1]at this ⊢;omega
theorem ju6 {e:Ev} (h:q28 e=true):(jwr (q37 e)).length≤1020000:=by have:=ju8 (q37 e) (qz4 h);have:=zu1 h;omega
theorem zq5 {e:Ev} (h:q28 e=true):(qm2 e).length≤1020002:=by have:=ju6 h;unfold qm2;rw[List.length_cons,List.length_append];simp only[List.length_cons,List.length_nil];omega
theorem zo9 (v : JV) : 1 ≤ (jwr v).length := by
  obtain ⟨k, i, t, l, ks⟩ := v;rw [jwr]
  repeat' split
  all_goals first
    | (unfold Lib.itoa; split
       · simp
       · rw [Lib.decDigits]; split <;> simp)
    | (unfold quo; simp)
    | simp
theorem jo4 (obj:Bool):∀(l:List JV) (ks:List ByteArray),l.length≤(q62 obj l ks).length∧∀x∈l,(jwr x).length≤(q62 obj l ks).length
 | [],ks=>by simp
 | y ::l,ks=>by
  obtain⟨h1,h2⟩:=jo4 obj l ks.tail
  rw[q62]
  simp only[List.length_cons,List.length_append]
  refine⟨by omega,fun x hx=> ?_⟩
  rcases List.mem_cons.1 hx with rfl | hx
  ·omega
  ·have:=h2 x hx;omega
theorem jz8 (obj:Bool):∀(l:List JV) (ks:List ByteArray),l.length≤(q42 obj l ks).length∧∀x∈l,(jwr x).length≤(q42 obj l ks).length
 | [],ks=>by simp
 | y ::l,ks=>by
  obtain⟨h1,h2⟩:=jo4 obj l ks.tail
  have h3:=zo9 y
  rw[q42]
  simp only[List.length_cons,List.length_append]
  refine⟨by omega,fun x hx=> ?_⟩
  rcases List.mem_cons.1 hx with rfl | hx
  ·omega
  ·have:=h2 x hx;omega
theorem qu4 {d:Nat} :∀ {l:List JV} {x:JV},q61 d l=true→x∈l→q27 d x=true
 | [],x,_,h=>by cases h
 | y ::l,x,h,hx=>by
  rw[q61,Bool.and_eq_true]at h
  rcases List.mem_cons.1 hx with rfl | hx
  ·exact h.1
  ·exact qu4 h.2 hx
theorem zf8 {d:Nat} {v:JV} (h:q27 d v=true):v.l.length≤(jwr v).length∧∀x∈v.l,(jwr x).length≤(jwr v).length∧q27 (d - 1) x=true:=by
 obtain⟨k,i,t,l,ks⟩:=v;rw[q27]at h;simp only[Bool.and_eq_true,Bool.or_eq_true,decide_eq_true_eq]at h;obtain⟨⟨⟨⟨⟨⟨h1,h2⟩,h3⟩,h4⟩,h5⟩,h6⟩,h7⟩:=h;show l.length≤_∧∀x∈l,_;by_cases hl:l= []
 ·subst hl;simp
 ·have hk:k=5∨k=6:=by
   rcases h5 with h5 | h5
   ·exact h5
   ·exact absurd (by simpa using h5) hl
  rw[jwr];rcases hk with rfl | rfl
  ·rw[if_neg (by decide),if_neg (by decide),if_neg (by decide),if_neg (by decide),if_neg (by decide),if_neg (by decide)];obtain⟨a1,a2⟩:=jz8 false l ks;simp only[List.length_cons,List.length_append];exact⟨by omega,fun x hx=>⟨by have:=a2 x hx;omega,qu4 h7 hx⟩⟩
  ·rw[if_neg (by decide),if_neg (by decide),if_neg (by decide),if_neg (by decide),if_neg (by decide),if_pos rfl];obtain⟨a1,a2⟩:=jz8 true l ks;simp only[List.length_cons,List.length_append];exact⟨by omega,fun x hx=>⟨by have:=a2 x hx;omega,qu4 h7 hx⟩⟩
theorem zd6 {d : Nat} {v : JV} (h : q27 d v = true) (i : Nat) : (jwr (jat v i)).length ≤ (jwr v).length + 4 ∧ (q27 (d - 1) (jat v i) = true ∨ jat v i = jv0) := by
  unfold jat;by_cases hi : i < v.l.length
  · have hx : v.l.getD i jv0 ∈ v.l := (by simp [hi]);have := (zf8 h).2 _ hx;exact ⟨by omega, .inl this.2⟩
  · have : v.l.getD i jv0 = jv0 := (by simp [hi]);rw [this]
    exact ⟨by have : (jwr jv0).length = 4 := by decide +kernel
              omega, .inr rfl⟩
theorem zo5 {d:Nat} {v:JV} (h:q27 d v=true∨v=jv0) (i:Nat):(jwr (jat v i)).length≤(jwr v).length+4∧(q27 (d - 1) (jat v i)=true∨jat v i=jv0):=by
 rcases h with h | rfl
 ·exact zd6 h i
 ·exact⟨by show(jwr jv0).length≤_;omega,.inr rfl⟩
theorem zu4 {d:Nat} {v:JV} (h:q27 d v=true∨v=jv0):v.l.length≤(jwr v).length:=by
 rcases h with h | rfl
 ·exact(zf8 h).1
 ·exact Nat.zero_le _
theorem zd5 {s:List UInt8} (h:q27 8 (q81 s).1=true) (hr:(q81 s).2.2=0) (hs:s.length≤1000000):(jat (jat (q81 s).1 6) 7).l.length≤100000000:=by have h0:(jwr (q81 s).1).length+9≤30 * s.length:=(by obtain⟨x,hj⟩:∃x,q81 s=x:=⟨_,rfl⟩;rw[hj]at hr ⊢;obtain⟨v,a,e⟩:=x;simp only at hr;subst hr;exact z54 hj);have h1:=zd6 h 6;have h2:=zo5 h1.2 7;have h3:=zu4 h2.2;omega
end Go.Proofs.YtlfjhgamlkbofaaGreatDoor
