/-
  Contracts of the functions that the laws of this seat reach, and plain laws, part 8 of 15; no condition.
-/
import Derived.Test.YtlfjhgamlkbofaaGreatDoorVF1
import Derived.Test.YtlfjhgamlkbofaaGreatDoorVC
import Derived.Test.YtlfjhgamlkbofaaGreatDoorVJ3
import Derived.Test.YtlfjhgamlkbofaaGreatDoorVF2
import Derived.Deep.RegionHeld3
import Derived.Deep.Cut
import Derived.Test.YtlfjhgamlkbofaaGreatDoorVF3
set_option linter.unusedVariables false
set_option linter.unusedSimpArgs false
set_option linter.unnecessarySimpa false
set_option maxRecDepth 100000
set_option maxHeartbeats 16000000
namespace Go.Proofs.YtlfjhgamlkbofaaGreatDoor
open Go.RowKit Js
structure Ev where
 kind:Int
 space:Int
 time:Nat
 num:Nat
 many:Nat
 text:ByteArray
 f:Fr
def ev0:Ev:=⟨0,0,0,0,0,⟨#[]⟩,fr0⟩
def Ev.bare (e:Ev):Bool:=fsame e.f fr0
def framed (k:Int):Bool:=decide (k=2) || decide (k=8) || decide (k=9)
def emay (e:Ev):Bool:=decide (1≤e.kind) && decide (e.kind≤15) && decide (0≤e.space) && decide (e.space≤1) && decide (e.time < 4611686018427387904) && decide (e.num < 4611686018427387904) && decide (e.many < 4611686018427387904) && decide (e.text.size≤16384) && (e.bare || framed e.kind && fmay e.f)
def esame (a b:Ev):Bool:=decide (a.kind=b.kind) && decide (a.space=b.space) && decide (a.time=b.time) && decide (a.num=b.num) && decide (a.many=b.many) && decide (a.text=b.text) && fsame a.f b.f
theorem esame_iff {a b:Ev} :esame a b=true↔a=b:=by obtain⟨_,_,_,_,_,_,_⟩:=a;obtain⟨_,_,_,_,_,_,_⟩:=b;unfold esame;simp only[Bool.and_eq_true,decide_eq_true_eq,fsame_iff,Ev.mk.injEq];exact⟨fun ⟨⟨⟨⟨⟨⟨a,b⟩,c⟩,d⟩,e⟩,f⟩,g⟩=>⟨a,b,c,d,e,f,g⟩,fun ⟨a,b,c,d,e,f,g⟩=>⟨⟨⟨⟨⟨⟨a,b⟩,c⟩,d⟩,e⟩,f⟩,g⟩⟩
theorem Ev.bare_iff {e:Ev} :e.bare=true↔e.f=fr0:=fsame_iff
theorem fmay0:fmay fr0=false:=by decide+kernel
structure EvOk (e:Ev):Prop where
 k1:1≤e.kind
 k2:e.kind≤15
 s1:0≤e.space
 s2:e.space≤1
 time:e.time < 4611686018427387904
 num:e.num < 4611686018427387904
 many:e.many < 4611686018427387904
 text:e.text.size≤16384
 fr:e.f=fr0∨(framed e.kind=true∧fmay e.f=true)
theorem emay_iff {e:Ev} :emay e=true↔EvOk e:=by unfold emay;simp only[Bool.and_eq_true,Bool.or_eq_true,decide_eq_true_eq,Ev.bare_iff];exact⟨fun ⟨⟨⟨⟨⟨⟨⟨⟨a,b⟩,c⟩,d⟩,e⟩,f⟩,g⟩,h⟩,i⟩=>⟨a,b,c,d,e,f,g,h,i⟩,fun ⟨a,b,c,d,e,f,g,h,i⟩=>⟨⟨⟨⟨⟨⟨⟨⟨a,b⟩,c⟩,d⟩,e⟩,f⟩,g⟩,h⟩,i⟩⟩
def etxt (l:List UInt8):List UInt8:=vputS l.length++ l
def eframe (e:Ev):List UInt8:=if e.bare then []else fwS e.f
def ebytes (e:Ev):List UInt8:=vputS e.kind.toNat++ (vputS e.time++ (vputS e.space.toNat++ (vputS e.num++ (vputS e.many++ (etxt e.text.data.toList++ etxt (eframe e))))))
def eone (e:Ev):List UInt8:=etxt (ebytes e)
theorem eframe_le {e:Ev} (h:emay e=true):(eframe e).length≤17000:=by
 unfold eframe
 split
 ·simp
 ·unfold fwS
  split
  ·exact fbytes_le (by assumption)
  ·simp
theorem etxt_le (l:List UInt8):(etxt l).length≤8+l.length:=by unfold etxt;have:=vputS_le l.length;rw[List.length_append];omega
theorem ebytes_le {e:Ev} (h:emay e=true):(ebytes e).length≤40000:=by unfold ebytes;have h0:=(emay_iff.1 h).text;have h1:=eframe_le h;have h2:=etxt_le e.text.data.toList;have h3:=etxt_le (eframe e);have a1:=vputS_le e.kind.toNat;have a2:=vputS_le e.time;have a3:=vputS_le e.space.toNat;have a4:=vputS_le e.num;have a5:=vputS_le e.many;rw[bytes_len]at h2;simp only[List.length_append];omega
theorem eone_le {e:Ev} (h:emay e=true):(eone e).length≤40008:=by have:=etxt_le (ebytes e);have:=ebytes_le h;unfold eone;omega
def eframeR (x:List UInt8):Option Fr:=if x= []then some fr0 else match fread x with
 | some y=>if y.2= []then some y.1 else none
 | none=>none
def eparse (s:List UInt8):Option Ev:=
 (pnum s).bind fun a=>(pnum a.2).bind fun b=>(pnum b.2).bind fun c=>(pnum c.2).bind fun d=>(pnum d.2).bind fun n=>(ptext n.2).bind fun t=>(ptext t.2).bind fun f=>
  if f.2= []∧a.1≤15∧c.1≤1 then(eframeR f.1).bind fun x=>if emay ⟨a.1,c.1,b.1,d.1,n.1,tob t.1,x⟩then some ⟨a.1,c.1,b.1,d.1,n.1,tob t.1,x⟩else none
  else none
theorem eframeR_put {e:Ev} (h:emay e=true):eframeR (eframe e)=some e.f:=by
 unfold eframe eframeR;cases hb:e.bare with
 | true=>rw[if_pos rfl,if_pos rfl,Ev.bare_iff.1 hb]
 | false=>
  simp only[Bool.false_eq_true,if_false];rcases(emay_iff.1 h).fr with h1 | ⟨_,h1⟩
  ·rw[Ev.bare_iff.2 h1]at hb;cases hb
  ·unfold fwS;rw[if_pos h1];have h2:=fread_put h1 [] (fun _=> .inr rfl);rw[List.append_nil]at h2;have hne:fbytes e.f≠ []:=(by intro e0;rw[e0]at h2;have:fread []=none:=(by decide+kernel);rw[this]at h2;cases h2);rw[if_neg hne,h2];simp
theorem eparse_put {e:Ev} (h:emay e=true):eparse (ebytes e)=some e:=by have ho:=emay_iff.1 h;have hk:=ho.k1;have hk2:=ho.k2;have hs:=ho.s1;have hs2:=ho.s2;have ht:=ho.text;have hf:=eframe_le h;unfold eparse ebytes etxt;rw[pnum_put (by omega)];simp only[Option.bind_some];rw[pnum_put ho.time];simp only[Option.bind_some];rw[pnum_put (by omega)];simp only[Option.bind_some];rw[pnum_put ho.num];simp only[Option.bind_some];rw[pnum_put ho.many];simp only[Option.bind_some];rw[List.append_assoc,ptext_put _ _ (by rw[bytes_len];omega)];simp only[Option.bind_some];have h3:=ptext_put (eframe e) [] (by omega);rw[List.append_nil]at h3;rw[h3];simp only[Option.bind_some];rw[if_pos ⟨trivial,by omega,by omega⟩,eframeR_put h];simp only[Option.bind_some];have e1:(e.kind.toNat:Int)=e.kind:=(by omega);have e2:(e.space.toNat:Int)=e.space:=(by omega);have e3:tob e.text.data.toList=e.text:=(by unfold tob;simp);rw[e1,e2,e3,if_pos h]
theorem eframeR_some {x:List UInt8} {f:Fr} (h:eframeR x=some f):(x= []∧f=fr0)∨(x≠ []∧fmay f=true∧x=fbytes f):=by
 unfold eframeR at h;by_cases hx:x= []
 ·rw[if_pos hx]at h;cases h;exact .inl ⟨hx,rfl⟩
 ·rw[if_neg hx]at h;cases hr:fread x with
  | none=>rw[hr]at h;cases h
  | some y=>
   rw[hr]at h;obtain⟨g,r⟩:=y;simp only at h
   split at h
   ·rename_i h0;cases h;subst h0;obtain⟨h1,h2,_⟩:=fread_some hr;exact .inr ⟨hx,h1,by rw[List.append_nil]at h2;exact h2⟩
   ·cases h
theorem eparse_some {s:List UInt8} {e:Ev} (h:eparse s=some e):emay e=true∧s=ebytes e:=by
 unfold eparse at h;obtain⟨⟨a,s1⟩,h1,h⟩:=Option.bind_eq_some_iff.1 h;obtain⟨⟨b,s2⟩,h2,h⟩:=Option.bind_eq_some_iff.1 h;obtain⟨⟨c,s3⟩,h3,h⟩:=Option.bind_eq_some_iff.1 h;obtain⟨⟨d,s4⟩,h4,h⟩:=Option.bind_eq_some_iff.1 h;obtain⟨⟨n,s5⟩,h5,h⟩:=Option.bind_eq_some_iff.1 h;obtain⟨⟨t,s6⟩,h6,h⟩:=Option.bind_eq_some_iff.1 h;obtain⟨⟨f,s7⟩,h7,h⟩:=Option.bind_eq_some_iff.1 h;simp only at h1 h2 h3 h4 h5 h6 h7 h
 split at h
 ·rename_i hc;obtain⟨rfl,_,_⟩:=hc;obtain⟨x,h8,h⟩:=Option.bind_eq_some_iff.1 h
  split at h
  ·rename_i hm;cases h;refine⟨hm,?_⟩;obtain⟨g1,_⟩:=pnum_some h1;obtain⟨g2,_⟩:=pnum_some h2;obtain⟨g3,_⟩:=pnum_some h3;obtain⟨g4,_⟩:=pnum_some h4;obtain⟨g5,_⟩:=pnum_some h5;obtain⟨g6,_⟩:=ptext_some h6;obtain⟨g7,_⟩:=ptext_some h7;have hfr:eframe ⟨a,c,b,d,n,tob t,x⟩=f:=by
    unfold eframe;rcases eframeR_some h8 with⟨h9,h10⟩ | ⟨h9,h10,h11⟩
    ·rw[if_pos (Ev.bare_iff.2 h10),h9]
    ·have hb:Ev.bare ⟨a,c,b,d,n,tob t,x⟩=false:=by
      cases hb:Ev.bare ⟨a,c,b,d,n,tob t,x⟩with
      | false=>rfl
      | true=>have:x=fr0:=Ev.bare_iff.1 hb;rw[this,fmay0]at h10;cases h10
     rw[hb,if_neg (by simp)];unfold fwS;rw[if_pos h10];exact h11.symm
   unfold ebytes;rw[hfr,g1,g2,g3,g4,g5,g6,g7];unfold etxt tob;simp
  ·cases h
 ·cases h
def eread (s:List UInt8):Option (Ev×List UInt8):=(ptext s).bind fun x=>if x.1.length≤65536 then(eparse x.1).map fun e=>(e,x.2)else none
theorem eread_put {e:Ev} (h:emay e=true) (r:List UInt8):eread (eone e++ r)=some (e,r):=by have hl:=ebytes_le h;unfold eread eone etxt;rw[List.append_assoc,ptext_put _ _ (by omega)];simp only[Option.bind_some];rw[if_pos (by omega),eparse_put h];rfl
theorem eread_some {s r:List UInt8} {e:Ev} (h:eread s=some (e,r)):emay e=true∧s=eone e++ r:=by
 unfold eread at h;obtain⟨⟨x,q⟩,h1,h⟩:=Option.bind_eq_some_iff.1 h;simp only at h
 split at h
 ·obtain⟨e',h2,h3⟩:=Option.map_eq_some_iff.1 h;cases h3;obtain⟨h4,h5⟩:=eparse_some h2;obtain⟨h6,_⟩:=ptext_some h1;refine⟨h4,?_⟩;unfold eone etxt;rw[h6,h5,List.append_assoc]
 ·cases h
theorem vputS_ne {n:Nat} (h:n < 4611686018427387904):vputS n≠ []:=by rw[vputS_eq h];exact vput_ne n
theorem eone_ne {e:Ev} (h:emay e=true):eone e≠ []:=by unfold eone etxt;have:=vputS_ne (n:=(ebytes e).length) (by have:=ebytes_le h;omega);simp[this]
abbrev One:=List UInt8→Option (Ev×List UInt8)
def rloop (R:One):Nat→List UInt8→Option (List Ev)×List UInt8
 | 0,s=>(none,s)
 | n+1,s=>if s= []then(some [],[])else match R s with
  | none=>(none,s)
  | some x=>match rloop R n x.2 with
   | (some l,q)=>(some (x.1 ::l),q)
   | (none,q)=>(none,q)
def rtell (R:One) (s:List UInt8):List Ev×Int×Int:=match rloop R (s.length+1) s with
 | (some l,_)=>(l,0,0)
 | (none,q)=>([],(s.length:Int) - q.length,2)
structure Reads (O:Ev→List UInt8) (R:One):Prop where
 put:∀e r,emay e=true→R (O e++ r)=some (e,r)
 ne:∀e,emay e=true→O e≠ []
 may:∀s e r,R s=some (e,r)→emay e=true∧r.length < s.length
section
variable {O:Ev→List UInt8} {R:One}
theorem rloop_fuel (h:Reads O R):∀(n m:Nat) (s:List UInt8),s.length < n→s.length < m→rloop R n s=rloop R m s:=by
 intro n;induction n with
 | zero=>intro m s h1;omega
 | succ n ih=>
  intro m s h1 h2;obtain⟨m,rfl⟩:∃k,m=k+1:=⟨m - 1,by omega⟩;rw[rloop,rloop]
  split
  ·rfl
  ·cases hr:R s with
   | none=>rfl
   | some x=>have:=(h.may s x.1 x.2 hr).2;simp only;rw[ih m x.2 (by omega) (by omega)]
theorem rloop_app (h:Reads O R):∀(l:List Ev) (s:List UInt8) (n:Nat),(∀e∈l,emay e=true)→(l.flatMap O++ s).length < n→
  rloop R n (l.flatMap O++ s)=match rloop R (s.length+1) s with
   | (some m,q)=>(some (l++ m),q)
   | (none,q)=>(none,q):=by
 intro l
 induction l with
 | nil=>
  intro s n _ hn
  rw[show([]:List Ev).flatMap O= []from rfl,List.nil_append,rloop_fuel h n (s.length+1) s (by simpa using hn) (by omega)]
  cases rloop R (s.length+1) s with
  | mk a b=>cases a <;> rfl
 | cons e l ih=>
  intro s n hl hn
  obtain⟨n,rfl⟩:∃k,n=k+1:=⟨n - 1,by omega⟩
  have he:=hl e (by simp)
  have hne:=h.ne e he
  rw[List.flatMap_cons,List.append_assoc,rloop]
  rw[List.flatMap_cons,List.append_assoc,List.length_append]at hn
  have hpos:0 < (O e).length:=List.length_pos_iff.2 hne
  rw[if_neg (by simp[hne]),h.put e _ he]
  simp only
  rw[ih s n (fun x hx=>hl x (by simp[hx])) (by omega)]
  cases rloop R (s.length+1) s with
  | mk a b=>cases a <;> rfl
theorem rtell_app (h:Reads O R) (l:List Ev) (hl:∀e∈l,emay e=true) (s:List UInt8):
  rtell R (l.flatMap O++ s)=if(rtell R s).2.2=0 then(l++ (rtell R s).1,0,0)else([],((l.flatMap O).length:Int)+(rtell R s).2.1,2):=by
 unfold rtell;rw[rloop_app h l s _ hl (Nat.lt_succ_self _)];cases hr:rloop R (s.length+1) s with
 | mk a b=>
  cases a with
  | none=>simp only;rw[if_neg (by decide),List.length_append];simp only[Prod.mk.injEq,true_and,and_true];omega
  | some m=>simp
theorem rtell_nil (R:One):rtell R []=([],0,0):=by unfold rtell;simp[rloop]
theorem rtell_back (h:Reads O R) (l:List Ev) (hl:∀e∈l,emay e=true):rtell R (l.flatMap O)=(l,0,0):=by have:=rtell_app h l hl [];rw[rtell_nil,List.append_nil]at this;simpa using this
end
theorem ereads:Reads eone eread:=by refine⟨fun e r h=>eread_put h r,fun e h=>eone_ne h,fun s e r h=> ?_⟩;obtain⟨h1,h2⟩:=eread_some h;refine⟨h1,?_⟩;have:=List.length_pos_iff.2 (eone_ne h1);rw[h2,List.length_append];omega
end Go.Proofs.YtlfjhgamlkbofaaGreatDoor
namespace Go.Proofs.YtlfjhgamlkbofaaGreatDoor
open Go.RowKit
def ecs (A:Option Addr) (n c:Nat) (e:Ev):Array Value:= #[.int .i64 e.kind,.int .i64 e.space,.int .u64 (e.time:Nat),.int .u64 (e.num:Nat),.int .u64 (e.many:Nat),.string e.text,.int .u64 (e.f.kind:Nat),.int .u64 (e.f.a:Nat),.int .u64 (e.f.b:Nat),.int .u64 (e.f.c:Nat),.bool e.f.fin,.string e.f.data,.string e.f.more,.slice A n c]
def evval (A:Option Addr) (n c:Nat) (e:Ev):Value:=.agg (ecs A n c e)
theorem fval0:fval none 0 0 fr0=.agg #[.int .u64 0,.int .u64 0,.int .u64 0,.int .u64 0,.bool false,.string ⟨#[]⟩,.string ⟨#[]⟩,.slice none 0 0]:=rfl
theorem framed_any (w:World) (k:Int):Calls Tryz.prog 51 #[.int .i64 k] w fun e w'=>e=.returned (.bool (framed k))∧w'=w:=by
 by_cases h2:k=2
 ·subst h2;go_enter Tryz.func51,Tryz.ntmps51;go_wp2_with fail;go_ret;exact⟨rfl,rfl⟩
 by_cases h8:k=8
 ·subst h8;go_enter Tryz.func51,Tryz.ntmps51;go_wp2_with fail;go_ret;exact⟨rfl,rfl⟩
 have e2:(k==2)=false:=(by rw[beq_eq_false_iff_ne];exact h2);have e8:(k==8)=false:=(by rw[beq_eq_false_iff_ne];exact h8);by_cases h9:k=9
 ·subst h9;clear h2 h8;go_enter Tryz.func51,Tryz.ntmps51;go_wp2_with fail;go_ret;exact⟨rfl,rfl⟩
 have e9:(k==9)=false:=(by rw[beq_eq_false_iff_ne];exact h9);have hf:framed k=false:=(by unfold framed;simp[h2,h8,h9]);rw[hf];clear h2 h8 h9 hf;go_enter Tryz.func51,Tryz.ntmps51;go_wp2_with fail;go_ret;exact⟨rfl,rfl⟩
theorem bare_any (w:World) (A:Option Addr) (n c:Nat) (e:Ev) (hr:Rngs w A n e.f.list) (v:Bool) (hv:e.bare=v):
  Calls Tryz.prog 50 #[evval A n c e] w (RPost w v):=by
 have HM:=hide ((Mod.refl [] w).alloc (.cells (ecs A n c e) 38));have hs:=fun w' (hr:Rngs w' A n e.f.list)=>same_any w' A none n 0 c 0 e.f fr0 hr (Rngs.nil w') v hv;rw[fval0]at hs;have HS:=hide hs;have HR:=hide (hr.new HM.out);clear hs hr hv;unfold fval fcs at HS;unfold evval ecs at *;go_enter Tryz.func50,Tryz.ntmps50;go_wp2_with fail;refine(HS.out _ HR.out).mono ?_;rintro e w1 ⟨rfl,m1⟩;go_wp2_with fail;go_ret;exact⟨rfl,HM.out.trans m1 (by simp)⟩
theorem eput_any (w:World) (n:Nat):Calls Tryz.prog 82 #[.int .u64 (n:Nat)] w fun e w'=>e=.returned (str (vputS n))∧Mod [] w w':=by have H:=hide (vput_any w n);go_enter Tryz.func82,Tryz.ntmps82;go_wp2_with fail;refine H.out.mono ?_;rintro e w1 ⟨rfl,m1⟩;go_wp2_with fail;go_ret;exact⟨rfl,m1⟩
theorem etext_any (w:World) (s:ByteArray) (hs:s.size≤9223372036854700000):Calls Tryz.prog 45 #[.string s] w fun e w'=>e=.returned (str (etxt s.data.toList))∧Mod [] w w':=by have H:=hide (eput_any w s.size);have q1:IntKind.u64.wrap (s.size:Int)=(s.size:Int):=IntWalk.u64_in _ (by omega);have hl:=vputS_le s.size;have hv:(⟨(vputS s.size).toArray⟩:ByteArray).size=(vputS s.size).length:=rfl;have HE:Hid (etxt s.data.toList=vputS s.size++ s.data.toList):=hide (by unfold etxt;rw[bytes_len]);obtain⟨p,hp⟩:∃p:ByteArray,(⟨(vputS s.size).toArray⟩:ByteArray)=p:=⟨_,rfl⟩;have HP:=hide hp;have hpl:p.size≤8:=(by rw[←hp,hv];exact hl);have H1:Hid (Calls Tryz.prog 82 #[.int .u64 (s.size:Nat)] w fun e w'=>e=.returned (.string p)∧Mod [] w w'):=hide (by have:=H.out;unfold str at this;rw[hp]at this;exact this);clear H hl hv hp;go_enter Tryz.func45,Tryz.ntmps45;go_wp2_with fail;refine H1.out.mono ?_;rintro e w1 ⟨rfl,m1⟩;go_wp2_with fail;go_ret;refine⟨?_,m1⟩;rw[HE.out];have:p.data.toList=vputS s.size:=(by rw[←HP.out]);unfold str;rw[←this];congr 2
theorem enum_any (w:World) (s:ByteArray) (hs:s.size≤9223372036854700000):
  Calls Tryz.prog 69 #[.string s] w fun e w'=>e=.returned (.tuple #[.int .u64 ((short s.data.toList).n:Nat),str (short s.data.toList).rest,.bool (short s.data.toList).ok])∧Mod [] w w':=by
 have H:=hide (vtake_any w s);have hr:=vtake_rest s.data.toList;have hsl:=bytes_len s;obtain⟨t,ht⟩:∃t,vtake s.data.toList=t:=⟨_,rfl⟩;have HK:Hid ((short s.data.toList)=⟨t.n,t.rest,decide (t.e=0) && (vsizeS t.n==s.size - t.rest.length)⟩):=hide (by unfold short;rw[ht,hsl]);rw[ht]at H hr;obtain⟨q,hq⟩:∃q:ByteArray,(⟨t.rest.toArray⟩:ByteArray)=q:=⟨_,rfl⟩;have hql:q.size=t.rest.length:=(by rw[←hq];simp[ByteArray.size]);have hqs:q.size≤s.size:=(by rw[hql];omega);have HQ:=hide hq;have HQl:=hide hql;have H1:Hid (Calls Tryz.prog 101 #[.string s] w fun e w'=>e=.returned (.tuple #[.int .u64 (t.n:Nat),.string q,.int .i64 t.e])∧Mod [] w w'):=hide (by have:=H.out;unfold str at this;rw[hq]at this;exact this);rw[HK.out];clear H hr ht hq hql HK;by_cases he:t.e=0
 ·have e0:(t.e==0)=true:=(by rw[he];rfl);have HS:=hide (fun w'=>vsize_any w' t.n);have hsz:vsizeS t.n≤8:=(by unfold vsizeS;split;omega;exact(vsize_pos _).2);obtain⟨z,hz⟩:∃z,vsizeS t.n=z:=⟨_,rfl⟩;have HE:=hide he;rw[hz]at hsz ⊢;have HS1:Hid (∀w',Calls Tryz.prog 102 #[.int .u64 t.n] w' fun e w''=>e=.returned (.int .i64 (z:Nat))∧w''=w'):=hide (by have:=HS.out;rw[hz]at this;exact this);clear he HS hz;go_enter Tryz.func69,Tryz.ntmps69;go_wp2_with fail;refine H1.out.mono ?_;rintro e w1 ⟨rfl,m1⟩;go_wp2_with fail;refine(HS1.out _).mono ?_;rintro e w2 ⟨rfl,rfl⟩;go_wp2_with fail;refine bodyPost_ret (results_tmp3 rfl _ _ _) rfl ?_;refine⟨?_,m1⟩;have e1:((z:Int)==(s.size:Int) - (q.size:Int))=(z==s.size - t.rest.length):=(by rw[Bool.eq_iff_iff,beq_iff_eq,beq_iff_eq];have:=HQl.out;omega);rw[decide_eq_true HE.out,Bool.true_and,←e1];unfold str;rw[HQ.out];rfl
 ·have e0:(t.e==0)=false:=(by rw[beq_eq_false_iff_ne];exact he);have HE:=hide he;clear he;go_enter Tryz.func69,Tryz.ntmps69;go_wp2_with fail;refine H1.out.mono ?_;rintro e w1 ⟨rfl,m1⟩;go_wp2_with fail;refine bodyPost_ret (results_tmp3 rfl _ _ _) rfl ?_;refine⟨?_,m1⟩;rw[decide_eq_false HE.out,Bool.false_and];unfold str;rw[HQ.out];rfl
theorem bstr_any (w:World) (B b:Nat) (l:List UInt8) (h:BldO w B b l) (hB:B≤w.heap.size):
  Calls Tryz.prog 81 #[.pointer (some ⟨b,0,none⟩)] w fun e w'=>e=.returned (str l)∧BldO w' B b l∧BStep B b w w':=by
 have hc:Calls Tryz.prog 81 #[.pointer (some ⟨b,0,none⟩)] w _:=Any.Builder_String_any_k bldsLays bldX B b l w h hB;refine hc.mono ?_;rintro e w' ⟨rfl,h1,h2,h3⟩;exact⟨rfl,h1,h2,h3⟩
def el5 (e:Ev):List Nat:= [e.kind.toNat,e.time,e.space.toNat,e.num,e.many]
def acc5 (e:Ev) (j:Nat):List UInt8:=((el5 e).take j).flatMap vputS
theorem acc5_step (e:Ev) (j v:Nat) (h:(el5 e)[j]? =some v):acc5 e (j+1)=acc5 e j++ vputS v:=by unfold acc5;rw[List.take_add_one,h];simp
theorem acc5_le (e:Ev) (j:Nat) (h:j≤5):(acc5 e j).length≤40:=by
 have key:∀l:List Nat,(l.flatMap vputS).length≤8 * l.length:=by
  intro l;induction l with
  | nil=>simp
  | cons a l ih=>have:=vputS_le a;rw[List.flatMap_cons,List.length_append,List.length_cons];omega
 unfold acc5;have h1:=key ((el5 e).take j);have h2:((el5 e).take j).length≤5:=(by rw[List.length_take];simp[el5];omega);omega
theorem ebytes_acc (e:Ev):ebytes e=acc5 e 5++ (etxt e.text.data.toList++ etxt (eframe e)):=by unfold ebytes acc5 el5;simp[List.append_assoc]
theorem etxt_size (s:ByteArray):(⟨(etxt s.data.toList).toArray⟩:ByteArray).size≤s.size+8:=by have:=etxt_le s.data.toList;rw[bytes_len]at this;simp only[ByteArray.size,List.size_toArray];have h:s.data.size=s.size:=rfl;omega
def LaidS (w:World) (g b:Nat) (A:Option Addr) (n c:Nat) (e:Ev) (w':World):Prop:=w'.cell? ⟨g,5,none⟩=some (.string e.text)∧BldO w' b b (acc5 e 5)∧Mod [] w w'∧b < w'.heap.size∧Blk w' g 38 (ecs A n c e)
theorem laid_str {w w':World} {g b:Nat} {A:Option Addr} {n c:Nat} {e:Ev} {P:ByteArray} (hP:(⟨(acc5 e 5).toArray⟩:ByteArray)=P) (hg:g < b) (hb:w.heap.size≤b) (h:LaidS w g b A n c e w'):
  Calls Tryz.prog 81 #[.pointer (some ⟨b,0,none⟩)] w' fun r w''=>r=.returned (.string P)∧LaidS w g b A n c e w'':=by
 obtain⟨h1,h2,h3,h4,h5⟩:=h;have:=bstr_any w' b b _ h2 (Nat.le_of_lt h4);unfold str at this;rw[hP]at this;refine this.mono ?_;rintro r w2 ⟨rfl,k1,k2⟩;have k3:=k2.blk h5 (by omega) (by decide);exact⟨rfl,k3.cell 5,k1,k2.mod h3 hb,k1.lt,k3⟩
theorem laid_txt {w w':World} {g b:Nat} {A:Option Addr} {n c:Nat} {e:Ev} {x v:ByteArray} (hc:∀w',Calls Tryz.prog 45 #[.string x] w' fun r w''=>r=.returned (.string v)∧Mod [] w' w'') (h:LaidS w g b A n c e w'):
  Calls Tryz.prog 45 #[.string x] w' fun r w''=>r=.returned (.string v)∧LaidS w g b A n c e w'':=by
 obtain⟨h1,h2,h3,h4,h5⟩:=h;refine(hc w').mono ?_;rintro r w2 ⟨rfl,m⟩;have k3:=m.blk h5 (by simp);exact⟨rfl,k3.cell 5,h2.mod m (by simp),h3.trans m (by simp),Nat.lt_of_lt_of_le h4 m.size,k3⟩
theorem elaid_any (w:World) (A:Option Addr) (n c:Nat) (e:Ev) (hr:Rngs w A n e.f.list) (hm:emay e=true):
  Calls Tryz.prog 46 #[evval A n c e] w fun r w'=>r=.returned (str (ebytes e))∧Mod [] w w':=by
 have ho:=emay_iff.1 hm;have hk1:=ho.k1;have hk2:=ho.k2;have hs1:=ho.s1;have hs2:=ho.s2;have htx:=ho.text;obtain⟨kn,hkn⟩:∃kn:Nat,e.kind.toNat=kn:=⟨_,rfl⟩;obtain⟨sn,hsn⟩:∃sn:Nat,e.space.toNat=sn:=⟨_,rfl⟩;have HA0:Hid (acc5 e (0+1)=acc5 e 0++ vputS kn):=hide (acc5_step e 0 kn (by rw[←hkn];rfl));have HA2:Hid (acc5 e (2+1)=acc5 e 2++ vputS sn):=hide (acc5_step e 2 sn (by rw[←hsn];rfl));have qk:IntKind.u64.wrap e.kind=(kn:Int):=(by rw[IntWalk.u64_in _ (by omega)];omega);have qs:IntKind.u64.wrap e.space=(sn:Int):=(by rw[IntWalk.u64_in _ (by omega)];omega);obtain⟨g,hg⟩:∃g,w.heap.size=g:=⟨_,rfl⟩;have hx0:=Blk.new w 38 (ecs A n c e);rw[hg]at hx0;have HX0:=hide hx0;have HM0:=hide ((Mod.refl [] w).alloc (.cells (ecs A n c e) 38));have HFW:=hide (fun w' (h:Rngs w' A n e.f.list)=>fwrite_any w' A n c e.f h);have HR:=hide (fun w' (m:Mod [] w w')=>hr.new m);have xf:(w.alloc (.cells (ecs A n c e) 38)).rangeAt w.heap.size 6 (fcs A n c e.f).toList:=fun j v hv=>(by rw[hg];have hj:j < 8:=(List.getElem?_eq_some_iff.1 hv).1;rw[hx0.cell (6+j),←hv];have j8:j=0∨j=1∨j=2∨j=3∨j=4∨j=5∨j=6∨j=7:=(by omega);rcases j8 with rfl | rfl | rfl | rfl | rfl | rfl | rfl | rfl <;> rfl);have XF:=hide xf;have HEf0:=hide (show eframe e=if e.bare then []else fwS e.f from rfl);have HG:=hide hg;have hfl:(wrB e.f).size≤17000:=by
  unfold wrB fwS
  split
  ·rename_i h;have:=fbytes_le h;simpa [ByteArray.size] using this
  ·decide
 obtain⟨F,hF⟩:∃F,wrB e.f=F:=⟨_,rfl⟩;have HFl:Hid (F.data.toList=fwS e.f):=hide (by rw[←hF];unfold wrB;simp);rw[hF]at hfl HFW;have HBa:=hide (fun w' (h:Rngs w' A n e.f.list) (v:Bool) (hv:e.bare=v)=>bare_any w' A n c e h v hv);clear hkn hsn hg hx0 hr hm ho xf hF;unfold evval;go_enter Tryz.func46,Tryz.ntmps46;go_wp2_with (refine wpList_load_mid rfl 36 _ rfl w.heap.size 6 rfl (fcs A n c e.f).toList _ XF.out rfl rfl (by kernel_rfl) ?_);have hfw:Calls Tryz.prog 83 #[.agg (fcs A n c e.f).toList.toArray] (w.alloc (.cells (ecs A n c e) 38)) _:=HFW.out _ (HR.out _ HM0.out);refine hfw.mono ?_;rintro e0 w1 ⟨rfl,m1⟩;have hgg:=HG.out;rw[hgg];have HM1:=hide (HM0.out.trans m1 (by simp));have HK1:=hide (m1.blk HX0.out (by simp));have XL:=hide HK1.out.range;clear m1 hfw XF hgg;go_wp2_with (refine wpList_load_mid rfl 38 _ rfl g 0 rfl (ecs A n c e).toList _ XL.out rfl rfl (by kernel_rfl) ?_);cases hb:e.bare with
 | true=>
  have HEf:Hid (eframe e=(⟨#[]⟩:ByteArray).data.toList):=hide (by rw[HEf0.out,if_pos hb]);have hba:Calls Tryz.prog 50 #[.agg (ecs A n c e).toList.toArray] w1 _:=HBa.out w1 (HR.out _ HM1.out) true hb;refine hba.mono ?_;rintro e0 w3 ⟨rfl,m3⟩;have HM3:=hide (HM1.out.trans m3 (by simp));have HK3:=hide (m3.blk HK1.out (by simp));clear m3 hba XL hb;have c0:w3.cell? ⟨g,0,none⟩=some (.int .i64 e.kind):=HK3.out.cell 0;have c1:w3.cell? ⟨g,1,none⟩=some (.int .i64 e.space):=HK3.out.cell 1;have c2:w3.cell? ⟨g,2,none⟩=some (.int .u64 (e.time:Nat)):=HK3.out.cell 2;have c3:w3.cell? ⟨g,3,none⟩=some (.int .u64 (e.num:Nat)):=HK3.out.cell 3;have c4:w3.cell? ⟨g,4,none⟩=some (.int .u64 (e.many:Nat)):=HK3.out.cell 4;have hgl:=HK3.out.lt;go_wp2_with fail;obtain⟨b,hbb⟩:∃b,w3.heap.size=b:=⟨_,rfl⟩;have hbn:=BldO.new w3 w3.heap.size (Nat.le_refl _);have hmn:=HM3.out.alloc (.cells #[.pointer none,.slice none 0 0] 102);have hkn:=HK3.out.alloc (.cells #[.pointer none,.slice none 0 0] 102);rw[hbb]at hbn;have HBn:Hid (BldO (w3.alloc (.cells #[.pointer none,.slice none 0 0] 102)) b b (acc5 e 0)):=hide hbn;have HMn:=hide hmn;have HKn:=hide hkn;have HGb:Hid (g < b):=hide (by rw[←hbb];exact HK3.out.lt);have HWb:Hid (w.heap.size≤b):=hide (by rw[←hbb];exact HM3.out.size);rw[hbb];clear hbb hbn hmn hkn c0 c1 c2 c3 c4;go_loopw [29] (fun i wr=>∃j:Nat,j≤5∧i=.int .i64 (j:Int)∧BldO wr b b (acc5 e j)∧Blk wr g 38 (ecs A n c e)∧Mod [] w wr) (fun i _=>5 - (intOf i).toNat)
  case atStart=>exact⟨0,by omega,rfl,HBn.out,HKn.out,HMn.out⟩
  case round=>
   clear HBn HKn HMn;obtain⟨j,hj,rfl,hb,hk,hm⟩:=hrel;have j5:j=0∨j=1∨j=2∨j=3∨j=4∨j=5:=(by omega);clear hj;rcases j5 with rfl | rfl | rfl | rfl | rfl | rfl
   ·have hst:acc5 e (0+1)=acc5 e 0++ vputS kn:=HA0.out;have HSt:=hide hst;clear hst;have hix:∀w,(Instr.index 89 (.agg #[.int .u64 (kn:Nat),.int .u64 (e.time:Nat),.int .u64 (sn:Nat),.int .u64 (e.num:Nat),.int .u64 (e.many:Nat)]) (.int .i64 0)).run Tryz.prog w=.ok (.int .u64 (kn:Nat)) w:=fun _=>(by kernel_rfl);go_wp2_with fail;refine(eput_any _ _).mono ?_;rintro e0 wp ⟨rfl,mp⟩;have hbl:=hb.mod mp (by simp);have hbk:=mp.blk hk (by simp);have hmw:=hm.trans mp (by simp);have hbs:=BldO.lt hbl;have HBk:=hide hbk;have HMw:=hide hmw;have hle:=acc5_le e 0 (by omega);have hvl:=vputS_le kn;have HBl:=hide hbl;clear hb hk hm hbl hbk hmw mp;go_wp2_with fail;refine(bwrite_any wp b b (acc5 e 0) ⟨(vputS kn).toArray⟩ HBl.out (by simp[ByteArray.size];omega) (by omega)).mono ?_;rintro e0 wq ⟨rfl,hb2,hs2⟩;have HB2:Hid (BldO wq b b (acc5 e (0+1))):=hide (by rw[HSt.out];exact hb2);have HK2:=hide (hs2.blk HBk.out (by have:=HGb.out;omega) (by decide));have HM2:=hide (hs2.mod HMw.out HWb.out);clear hb2 hs2 hbs hle hvl;go_wp2_with fail;go_roundw
    case rel=>exact⟨1,by omega,by go_num,HB2.out,HK2.out,HM2.out⟩
    case measure=>simp[intOf]
   ·have hst:acc5 e (1+1)=acc5 e 1++ vputS e.time:=acc5_step e 1 _ rfl;have HSt:=hide hst;clear hst;have hix:∀w,(Instr.index 89 (.agg #[.int .u64 (kn:Nat),.int .u64 (e.time:Nat),.int .u64 (sn:Nat),.int .u64 (e.num:Nat),.int .u64 (e.many:Nat)]) (.int .i64 1)).run Tryz.prog w=.ok (.int .u64 (e.time:Nat)) w:=fun _=>(by kernel_rfl);go_wp2_with fail;refine(eput_any _ _).mono ?_;rintro e0 wp ⟨rfl,mp⟩;have hbl:=hb.mod mp (by simp);have hbk:=mp.blk hk (by simp);have hmw:=hm.trans mp (by simp);have hbs:=BldO.lt hbl;have HBk:=hide hbk;have HMw:=hide hmw;have hle:=acc5_le e 1 (by omega);have hvl:=vputS_le e.time;have HBl:=hide hbl;clear hb hk hm hbl hbk hmw mp;go_wp2_with fail;refine(bwrite_any wp b b (acc5 e 1) ⟨(vputS e.time).toArray⟩ HBl.out (by simp[ByteArray.size];omega) (by omega)).mono ?_;rintro e0 wq ⟨rfl,hb2,hs2⟩;have HB2:Hid (BldO wq b b (acc5 e (1+1))):=hide (by rw[HSt.out];exact hb2);have HK2:=hide (hs2.blk HBk.out (by have:=HGb.out;omega) (by decide));have HM2:=hide (hs2.mod HMw.out HWb.out);clear hb2 hs2 hbs hle hvl;go_wp2_with fail;go_roundw
    case rel=>exact⟨2,by omega,by go_num,HB2.out,HK2.out,HM2.out⟩
    case measure=>simp[intOf]
   ·have hst:acc5 e (2+1)=acc5 e 2++ vputS sn:=HA2.out;have HSt:=hide hst;clear hst;have hix:∀w,(Instr.index 89 (.agg #[.int .u64 (kn:Nat),.int .u64 (e.time:Nat),.int .u64 (sn:Nat),.int .u64 (e.num:Nat),.int .u64 (e.many:Nat)]) (.int .i64 2)).run Tryz.prog w=.ok (.int .u64 (sn:Nat)) w:=fun _=>(by kernel_rfl);go_wp2_with fail;refine(eput_any _ _).mono ?_;rintro e0 wp ⟨rfl,mp⟩;have hbl:=hb.mod mp (by simp);have hbk:=mp.blk hk (by simp);have hmw:=hm.trans mp (by simp);have hbs:=BldO.lt hbl;have HBk:=hide hbk;have HMw:=hide hmw;have hle:=acc5_le e 2 (by omega);have hvl:=vputS_le sn;have HBl:=hide hbl;clear hb hk hm hbl hbk hmw mp;go_wp2_with fail;refine(bwrite_any wp b b (acc5 e 2) ⟨(vputS sn).toArray⟩ HBl.out (by simp[ByteArray.size];omega) (by omega)).mono ?_;rintro e0 wq ⟨rfl,hb2,hs2⟩;have HB2:Hid (BldO wq b b (acc5 e (2+1))):=hide (by rw[HSt.out];exact hb2);have HK2:=hide (hs2.blk HBk.out (by have:=HGb.out;omega) (by decide));have HM2:=hide (hs2.mod HMw.out HWb.out);clear hb2 hs2 hbs hle hvl;go_wp2_with fail;go_roundw
    case rel=>exact⟨3,by omega,by go_num,HB2.out,HK2.out,HM2.out⟩
    case measure=>simp[intOf]
   ·have hst:acc5 e (3+1)=acc5 e 3++ vputS e.num:=acc5_step e 3 _ rfl;have HSt:=hide hst;clear hst;have hix:∀w,(Instr.index 89 (.agg #[.int .u64 (kn:Nat),.int .u64 (e.time:Nat),.int .u64 (sn:Nat),.int .u64 (e.num:Nat),.int .u64 (e.many:Nat)]) (.int .i64 3)).run Tryz.prog w=.ok (.int .u64 (e.num:Nat)) w:=fun _=>(by kernel_rfl);go_wp2_with fail;refine(eput_any _ _).mono ?_;rintro e0 wp ⟨rfl,mp⟩;have hbl:=hb.mod mp (by simp);have hbk:=mp.blk hk (by simp);have hmw:=hm.trans mp (by simp);have hbs:=BldO.lt hbl;have HBk:=hide hbk;have HMw:=hide hmw;have hle:=acc5_le e 3 (by omega);have hvl:=vputS_le e.num;have HBl:=hide hbl;clear hb hk hm hbl hbk hmw mp;go_wp2_with fail;refine(bwrite_any wp b b (acc5 e 3) ⟨(vputS e.num).toArray⟩ HBl.out (by simp[ByteArray.size];omega) (by omega)).mono ?_;rintro e0 wq ⟨rfl,hb2,hs2⟩;have HB2:Hid (BldO wq b b (acc5 e (3+1))):=hide (by rw[HSt.out];exact hb2);have HK2:=hide (hs2.blk HBk.out (by have:=HGb.out;omega) (by decide));have HM2:=hide (hs2.mod HMw.out HWb.out);clear hb2 hs2 hbs hle hvl;go_wp2_with fail;go_roundw
    case rel=>exact⟨4,by omega,by go_num,HB2.out,HK2.out,HM2.out⟩
    case measure=>simp[intOf]
   ·have hst:acc5 e (4+1)=acc5 e 4++ vputS e.many:=acc5_step e 4 _ rfl;have HSt:=hide hst;clear hst;have hix:∀w,(Instr.index 89 (.agg #[.int .u64 (kn:Nat),.int .u64 (e.time:Nat),.int .u64 (sn:Nat),.int .u64 (e.num:Nat),.int .u64 (e.many:Nat)]) (.int .i64 4)).run Tryz.prog w=.ok (.int .u64 (e.many:Nat)) w:=fun _=>(by kernel_rfl);go_wp2_with fail;refine(eput_any _ _).mono ?_;rintro e0 wp ⟨rfl,mp⟩;have hbl:=hb.mod mp (by simp);have hbk:=mp.blk hk (by simp);have hmw:=hm.trans mp (by simp);have hbs:=BldO.lt hbl;have HBk:=hide hbk;have HMw:=hide hmw;have hle:=acc5_le e 4 (by omega);have hvl:=vputS_le e.many;have HBl:=hide hbl;clear hb hk hm hbl hbk hmw mp;go_wp2_with fail;refine(bwrite_any wp b b (acc5 e 4) ⟨(vputS e.many).toArray⟩ HBl.out (by simp[ByteArray.size];omega) (by omega)).mono ?_;rintro e0 wq ⟨rfl,hb2,hs2⟩;have HB2:Hid (BldO wq b b (acc5 e (4+1))):=hide (by rw[HSt.out];exact hb2);have HK2:=hide (hs2.blk HBk.out (by have:=HGb.out;omega) (by decide));have HM2:=hide (hs2.mod HMw.out HWb.out);clear hb2 hs2 hbs hle hvl;go_wp2_with fail;go_roundw
    case rel=>exact⟨5,by omega,by go_num,HB2.out,HK2.out,HM2.out⟩
    case measure=>simp[intOf]
   ·have t5:wr.cell? ⟨g,5,none⟩=some (.string e.text):=hk.cell 5;have hbl:=BldO.lt hb;have HB5:=hide hb;have HM5:=hide hm;obtain⟨P,hP⟩:∃P:ByteArray,(⟨(acc5 e 5).toArray⟩:ByteArray)=P:=⟨_,rfl⟩;obtain⟨T,hT⟩:∃T:ByteArray,(⟨(etxt e.text.data.toList).toArray⟩:ByteArray)=T:=⟨_,rfl⟩;obtain⟨U,hU⟩:∃U:ByteArray,(⟨(etxt (⟨#[]⟩:ByteArray).data.toList).toArray⟩:ByteArray)=U:=⟨_,rfl⟩;have hPs:P.size≤40:=(by rw[←hP];have:=acc5_le e 5 (Nat.le_refl _);simpa [ByteArray.size] using this);have hTs:T.size≤16400:=(by rw[←hT];have:=etxt_size e.text;have:=htx;omega);have hUs:U.size≤17100:=(by rw[←hU];have:=etxt_size ⟨#[]⟩;have h0:(⟨#[]⟩:ByteArray).size=0:=rfl;omega);have n1:¬9223372036854775807 < P.size+T.size:=(by omega);have n2:¬9223372036854775807 < P.size+T.size+U.size:=(by omega);have HFin:Hid (ebytes e=(P++ T++ U:ByteArray).data.toList):=hide (by rw[ebytes_acc,HEf.out,←hP,←hT,←hU];simp);have HP:=hide hP
    have HTx:Hid (∀(x v:ByteArray),((x=e.text∧v=T)∨(x=⟨#[]⟩∧v=U))→∀w',Calls Tryz.prog 45 #[.string x] w' fun e0 w''=>e0=.returned (.string v)∧Mod [] w' w''):=hide (by
     rintro x v (⟨hx1,hx2⟩ | ⟨hx1,hx2⟩) w'
     ·rw[hx1,hx2]
      have:=etext_any w' e.text (by omega)
      unfold str at this
      rw[hT]at this
      exact this
     ·rw[hx1,hx2]
      have:=etext_any w' ⟨#[]⟩ (by decide)
      unfold str at this
      rw[hU]at this
      exact this)
    have hbz:b < wr.heap.size:=hbl;have HS0:Hid (wr.drew.cell? ⟨g,5,none⟩=some (.string e.text)∧BldO wr.drew b b (acc5 e 5)∧Mod [] w wr.drew∧b < wr.drew.heap.size∧Blk wr.drew g 38 (ecs A n c e)):=hide ⟨t5,hb.mod (Mod.refl [] wr).drew (by simp),hm.drew,hbz,hk.drew⟩;clear hP hT hU hb hk hm;go_wp2_with fail;go_region_held3 (fun w'=>w'.cell? ⟨g,5,none⟩=some (.string e.text)∧BldO w' b b (acc5 e 5)∧Mod [] w w'∧b < w'.heap.size∧Blk w' g 38 (ecs A n c e))
     (first | exact HS0.out | assumption)
     (first
      | (go_at_call 81;refine(laid_str (A:=A) (n:=n) (c:=c) (e:=e) HP.out HGb.out HWb.out (by assumption)).mono ?_;rintro e0 w' ⟨rfl,hS'⟩)
      | (go_at_call 45;refine(laid_txt (A:=A) (n:=n) (c:=c) (e:=e) (HTx.out _ _ (by first | exact Or.inl ⟨rfl,rfl⟩ | exact Or.inr ⟨rfl,rfl⟩)) (by assumption)).mono ?_;rintro e0 w' ⟨rfl,hS'⟩))
    all_goals
     go_wp2_with fail
     go_ret
     exact⟨congrArg Ending.returned (by rw[HFin.out];unfold str;exact congrArg Value.string (eta_bytes _).symm),hS'.2.2.1⟩
 | false=>
  have HEf:Hid (eframe e=F.data.toList):=hide (by rw[HEf0.out,if_neg (by rw[hb];decide),HFl.out]);have hba:Calls Tryz.prog 50 #[.agg (ecs A n c e).toList.toArray] w1 _:=HBa.out w1 (HR.out _ HM1.out) false hb;refine hba.mono ?_;rintro e0 w3 ⟨rfl,m3⟩;have HM3:=hide (HM1.out.trans m3 (by simp));have HK3:=hide (m3.blk HK1.out (by simp));clear m3 hba XL hb;have c0:w3.cell? ⟨g,0,none⟩=some (.int .i64 e.kind):=HK3.out.cell 0;have c1:w3.cell? ⟨g,1,none⟩=some (.int .i64 e.space):=HK3.out.cell 1;have c2:w3.cell? ⟨g,2,none⟩=some (.int .u64 (e.time:Nat)):=HK3.out.cell 2;have c3:w3.cell? ⟨g,3,none⟩=some (.int .u64 (e.num:Nat)):=HK3.out.cell 3;have c4:w3.cell? ⟨g,4,none⟩=some (.int .u64 (e.many:Nat)):=HK3.out.cell 4;have hgl:=HK3.out.lt;go_wp2_with fail;obtain⟨b,hbb⟩:∃b,w3.heap.size=b:=⟨_,rfl⟩;have hbn:=BldO.new w3 w3.heap.size (Nat.le_refl _);have hmn:=HM3.out.alloc (.cells #[.pointer none,.slice none 0 0] 102);have hkn:=HK3.out.alloc (.cells #[.pointer none,.slice none 0 0] 102);rw[hbb]at hbn;have HBn:Hid (BldO (w3.alloc (.cells #[.pointer none,.slice none 0 0] 102)) b b (acc5 e 0)):=hide hbn;have HMn:=hide hmn;have HKn:=hide hkn;have HGb:Hid (g < b):=hide (by rw[←hbb];exact HK3.out.lt);have HWb:Hid (w.heap.size≤b):=hide (by rw[←hbb];exact HM3.out.size);rw[hbb];clear hbb hbn hmn hkn c0 c1 c2 c3 c4;go_loopw [29] (fun i wr=>∃j:Nat,j≤5∧i=.int .i64 (j:Int)∧BldO wr b b (acc5 e j)∧Blk wr g 38 (ecs A n c e)∧Mod [] w wr) (fun i _=>5 - (intOf i).toNat)
  case atStart=>exact⟨0,by omega,rfl,HBn.out,HKn.out,HMn.out⟩
  case round=>
   clear HBn HKn HMn;obtain⟨j,hj,rfl,hb,hk,hm⟩:=hrel;have j5:j=0∨j=1∨j=2∨j=3∨j=4∨j=5:=(by omega);clear hj;rcases j5 with rfl | rfl | rfl | rfl | rfl | rfl
   ·have hst:acc5 e (0+1)=acc5 e 0++ vputS kn:=HA0.out;have HSt:=hide hst;clear hst;have hix:∀w,(Instr.index 89 (.agg #[.int .u64 (kn:Nat),.int .u64 (e.time:Nat),.int .u64 (sn:Nat),.int .u64 (e.num:Nat),.int .u64 (e.many:Nat)]) (.int .i64 0)).run Tryz.prog w=.ok (.int .u64 (kn:Nat)) w:=fun _=>(by kernel_rfl);go_wp2_with fail;refine(eput_any _ _).mono ?_;rintro e0 wp ⟨rfl,mp⟩;have hbl:=hb.mod mp (by simp);have hbk:=mp.blk hk (by simp);have hmw:=hm.trans mp (by simp);have hbs:=BldO.lt hbl;have HBk:=hide hbk;have HMw:=hide hmw;have hle:=acc5_le e 0 (by omega);have hvl:=vputS_le kn;have HBl:=hide hbl;clear hb hk hm hbl hbk hmw mp;go_wp2_with fail;refine(bwrite_any wp b b (acc5 e 0) ⟨(vputS kn).toArray⟩ HBl.out (by simp[ByteArray.size];omega) (by omega)).mono ?_;rintro e0 wq ⟨rfl,hb2,hs2⟩;have HB2:Hid (BldO wq b b (acc5 e (0+1))):=hide (by rw[HSt.out];exact hb2);have HK2:=hide (hs2.blk HBk.out (by have:=HGb.out;omega) (by decide));have HM2:=hide (hs2.mod HMw.out HWb.out);clear hb2 hs2 hbs hle hvl;go_wp2_with fail;go_roundw
    case rel=>exact⟨1,by omega,by go_num,HB2.out,HK2.out,HM2.out⟩
    case measure=>simp[intOf]
   ·have hst:acc5 e (1+1)=acc5 e 1++ vputS e.time:=acc5_step e 1 _ rfl;have HSt:=hide hst;clear hst;have hix:∀w,(Instr.index 89 (.agg #[.int .u64 (kn:Nat),.int .u64 (e.time:Nat),.int .u64 (sn:Nat),.int .u64 (e.num:Nat),.int .u64 (e.many:Nat)]) (.int .i64 1)).run Tryz.prog w=.ok (.int .u64 (e.time:Nat)) w:=fun _=>(by kernel_rfl);go_wp2_with fail;refine(eput_any _ _).mono ?_;rintro e0 wp ⟨rfl,mp⟩;have hbl:=hb.mod mp (by simp);have hbk:=mp.blk hk (by simp);have hmw:=hm.trans mp (by simp);have hbs:=BldO.lt hbl;have HBk:=hide hbk;have HMw:=hide hmw;have hle:=acc5_le e 1 (by omega);have hvl:=vputS_le e.time;have HBl:=hide hbl;clear hb hk hm hbl hbk hmw mp;go_wp2_with fail;refine(bwrite_any wp b b (acc5 e 1) ⟨(vputS e.time).toArray⟩ HBl.out (by simp[ByteArray.size];omega) (by omega)).mono ?_;rintro e0 wq ⟨rfl,hb2,hs2⟩;have HB2:Hid (BldO wq b b (acc5 e (1+1))):=hide (by rw[HSt.out];exact hb2);have HK2:=hide (hs2.blk HBk.out (by have:=HGb.out;omega) (by decide));have HM2:=hide (hs2.mod HMw.out HWb.out);clear hb2 hs2 hbs hle hvl;go_wp2_with fail;go_roundw
    case rel=>exact⟨2,by omega,by go_num,HB2.out,HK2.out,HM2.out⟩
    case measure=>simp[intOf]
   ·have hst:acc5 e (2+1)=acc5 e 2++ vputS sn:=HA2.out;have HSt:=hide hst;clear hst;have hix:∀w,(Instr.index 89 (.agg #[.int .u64 (kn:Nat),.int .u64 (e.time:Nat),.int .u64 (sn:Nat),.int .u64 (e.num:Nat),.int .u64 (e.many:Nat)]) (.int .i64 2)).run Tryz.prog w=.ok (.int .u64 (sn:Nat)) w:=fun _=>(by kernel_rfl);go_wp2_with fail;refine(eput_any _ _).mono ?_;rintro e0 wp ⟨rfl,mp⟩;have hbl:=hb.mod mp (by simp);have hbk:=mp.blk hk (by simp);have hmw:=hm.trans mp (by simp);have hbs:=BldO.lt hbl;have HBk:=hide hbk;have HMw:=hide hmw;have hle:=acc5_le e 2 (by omega);have hvl:=vputS_le sn;have HBl:=hide hbl;clear hb hk hm hbl hbk hmw mp;go_wp2_with fail;refine(bwrite_any wp b b (acc5 e 2) ⟨(vputS sn).toArray⟩ HBl.out (by simp[ByteArray.size];omega) (by omega)).mono ?_;rintro e0 wq ⟨rfl,hb2,hs2⟩;have HB2:Hid (BldO wq b b (acc5 e (2+1))):=hide (by rw[HSt.out];exact hb2);have HK2:=hide (hs2.blk HBk.out (by have:=HGb.out;omega) (by decide));have HM2:=hide (hs2.mod HMw.out HWb.out);clear hb2 hs2 hbs hle hvl;go_wp2_with fail;go_roundw
    case rel=>exact⟨3,by omega,by go_num,HB2.out,HK2.out,HM2.out⟩
    case measure=>simp[intOf]
   ·have hst:acc5 e (3+1)=acc5 e 3++ vputS e.num:=acc5_step e 3 _ rfl;have HSt:=hide hst;clear hst;have hix:∀w,(Instr.index 89 (.agg #[.int .u64 (kn:Nat),.int .u64 (e.time:Nat),.int .u64 (sn:Nat),.int .u64 (e.num:Nat),.int .u64 (e.many:Nat)]) (.int .i64 3)).run Tryz.prog w=.ok (.int .u64 (e.num:Nat)) w:=fun _=>(by kernel_rfl);go_wp2_with fail;refine(eput_any _ _).mono ?_;rintro e0 wp ⟨rfl,mp⟩;have hbl:=hb.mod mp (by simp);have hbk:=mp.blk hk (by simp);have hmw:=hm.trans mp (by simp);have hbs:=BldO.lt hbl;have HBk:=hide hbk;have HMw:=hide hmw;have hle:=acc5_le e 3 (by omega);have hvl:=vputS_le e.num;have HBl:=hide hbl;clear hb hk hm hbl hbk hmw mp;go_wp2_with fail;refine(bwrite_any wp b b (acc5 e 3) ⟨(vputS e.num).toArray⟩ HBl.out (by simp[ByteArray.size];omega) (by omega)).mono ?_;rintro e0 wq ⟨rfl,hb2,hs2⟩;have HB2:Hid (BldO wq b b (acc5 e (3+1))):=hide (by rw[HSt.out];exact hb2);have HK2:=hide (hs2.blk HBk.out (by have:=HGb.out;omega) (by decide));have HM2:=hide (hs2.mod HMw.out HWb.out);clear hb2 hs2 hbs hle hvl;go_wp2_with fail;go_roundw
    case rel=>exact⟨4,by omega,by go_num,HB2.out,HK2.out,HM2.out⟩
    case measure=>simp[intOf]
   ·have hst:acc5 e (4+1)=acc5 e 4++ vputS e.many:=acc5_step e 4 _ rfl;have HSt:=hide hst;clear hst;have hix:∀w,(Instr.index 89 (.agg #[.int .u64 (kn:Nat),.int .u64 (e.time:Nat),.int .u64 (sn:Nat),.int .u64 (e.num:Nat),.int .u64 (e.many:Nat)]) (.int .i64 4)).run Tryz.prog w=.ok (.int .u64 (e.many:Nat)) w:=fun _=>(by kernel_rfl);go_wp2_with fail;refine(eput_any _ _).mono ?_;rintro e0 wp ⟨rfl,mp⟩;have hbl:=hb.mod mp (by simp);have hbk:=mp.blk hk (by simp);have hmw:=hm.trans mp (by simp);have hbs:=BldO.lt hbl;have HBk:=hide hbk;have HMw:=hide hmw;have hle:=acc5_le e 4 (by omega);have hvl:=vputS_le e.many;have HBl:=hide hbl;clear hb hk hm hbl hbk hmw mp;go_wp2_with fail;refine(bwrite_any wp b b (acc5 e 4) ⟨(vputS e.many).toArray⟩ HBl.out (by simp[ByteArray.size];omega) (by omega)).mono ?_;rintro e0 wq ⟨rfl,hb2,hs2⟩;have HB2:Hid (BldO wq b b (acc5 e (4+1))):=hide (by rw[HSt.out];exact hb2);have HK2:=hide (hs2.blk HBk.out (by have:=HGb.out;omega) (by decide));have HM2:=hide (hs2.mod HMw.out HWb.out);clear hb2 hs2 hbs hle hvl;go_wp2_with fail;go_roundw
    case rel=>exact⟨5,by omega,by go_num,HB2.out,HK2.out,HM2.out⟩
    case measure=>simp[intOf]
   ·have t5:wr.cell? ⟨g,5,none⟩=some (.string e.text):=hk.cell 5;have hbl:=BldO.lt hb;have HB5:=hide hb;have HM5:=hide hm;obtain⟨P,hP⟩:∃P:ByteArray,(⟨(acc5 e 5).toArray⟩:ByteArray)=P:=⟨_,rfl⟩;obtain⟨T,hT⟩:∃T:ByteArray,(⟨(etxt e.text.data.toList).toArray⟩:ByteArray)=T:=⟨_,rfl⟩;obtain⟨U,hU⟩:∃U:ByteArray,(⟨(etxt (F:ByteArray).data.toList).toArray⟩:ByteArray)=U:=⟨_,rfl⟩;have hPs:P.size≤40:=(by rw[←hP];have:=acc5_le e 5 (Nat.le_refl _);simpa [ByteArray.size] using this);have hTs:T.size≤16400:=(by rw[←hT];have:=etxt_size e.text;have:=htx;omega);have hUs:U.size≤17100:=(by rw[←hU];have:=etxt_size F;omega);have n1:¬9223372036854775807 < P.size+T.size:=(by omega);have n2:¬9223372036854775807 < P.size+T.size+U.size:=(by omega);have HFin:Hid (ebytes e=(P++ T++ U:ByteArray).data.toList):=hide (by rw[ebytes_acc,HEf.out,←hP,←hT,←hU];simp);have HP:=hide hP
    have HTx:Hid (∀(x v:ByteArray),((x=e.text∧v=T)∨(x=F∧v=U))→∀w',Calls Tryz.prog 45 #[.string x] w' fun e0 w''=>e0=.returned (.string v)∧Mod [] w' w''):=hide (by
     rintro x v (⟨hx1,hx2⟩ | ⟨hx1,hx2⟩) w'
     ·rw[hx1,hx2]
      have:=etext_any w' e.text (by omega)
      unfold str at this
      rw[hT]at this
      exact this
     ·rw[hx1,hx2]
      have:=etext_any w' F (by omega)
      unfold str at this
      rw[hU]at this
      exact this)
    have hbz:b < wr.heap.size:=hbl;have HS0:Hid (wr.drew.cell? ⟨g,5,none⟩=some (.string e.text)∧BldO wr.drew b b (acc5 e 5)∧Mod [] w wr.drew∧b < wr.drew.heap.size∧Blk wr.drew g 38 (ecs A n c e)):=hide ⟨t5,hb.mod (Mod.refl [] wr).drew (by simp),hm.drew,hbz,hk.drew⟩;clear hP hT hU hb hk hm;go_wp2_with fail;go_region_held3 (fun w'=>w'.cell? ⟨g,5,none⟩=some (.string e.text)∧BldO w' b b (acc5 e 5)∧Mod [] w w'∧b < w'.heap.size∧Blk w' g 38 (ecs A n c e))
     (first | exact HS0.out | assumption)
     (first
      | (go_at_call 81;refine(laid_str (A:=A) (n:=n) (c:=c) (e:=e) HP.out HGb.out HWb.out (by assumption)).mono ?_;rintro e0 w' ⟨rfl,hS'⟩)
      | (go_at_call 45;refine(laid_txt (A:=A) (n:=n) (c:=c) (e:=e) (HTx.out _ _ (by first | exact Or.inl ⟨rfl,rfl⟩ | exact Or.inr ⟨rfl,rfl⟩)) (by assumption)).mono ?_;rintro e0 w' ⟨rfl,hS'⟩))
    all_goals
     go_wp2_with fail
     go_ret
     exact⟨congrArg Ending.returned (by rw[HFin.out];unfold str;exact congrArg Value.string (eta_bytes _).symm),hS'.2.2.1⟩
theorem emay_any (w:World) (A:Option Addr) (n c:Nat) (e:Ev) (hr:Rngs w A n e.f.list) (v:Bool) (hv:emay e=v):
  Calls Tryz.prog 22 #[evval A n c e] w (RPost w v):=by
 have HM:=hide ((Mod.refl [] w).alloc (.cells (ecs A n c e) 38));have HR:=hide (hr.new HM.out);have HX:=hide (Blk.new w 38 (ecs A n c e));have HBa:=hide (fun w' (h:Rngs w' A n e.f.list) (b:Bool) (hb:e.bare=b)=>bare_any w' A n c e h b hb);have HFm:=hide (fun w' (h:Rngs w' A n e.f.list) (b:Bool) (hb:fmay e.f=b)=>may_any w' A n c e.f h b hb);clear hr;unfold evval fval fcs at *;unfold ecs at *;by_cases hk1:e.kind < 1
 ·have hv2:v=false:=by
   rw[←hv];cases hx:emay e with
   | false=>rfl
   | true=>exact absurd (emay_iff.1 hx).k1 (by omega)
  subst hv2;clear hv;go_enter Tryz.func22,Tryz.ntmps22;go_wp2_with fail;go_ret;exact⟨rfl,HM.out⟩
 by_cases hk2:e.kind > 15
 ·have hv2:v=false:=by
   rw[←hv];cases hx:emay e with
   | false=>rfl
   | true=>exact absurd (emay_iff.1 hx).k2 (by omega)
  subst hv2;clear hv;go_enter Tryz.func22,Tryz.ntmps22;go_wp2_with fail;go_ret;exact⟨rfl,HM.out⟩
 by_cases hs1:e.space < 0
 ·have hv2:v=false:=by
   rw[←hv];cases hx:emay e with
   | false=>rfl
   | true=>exact absurd (emay_iff.1 hx).s1 (by omega)
  subst hv2;clear hv;go_enter Tryz.func22,Tryz.ntmps22;go_wp2_with fail;go_ret;exact⟨rfl,HM.out⟩
 by_cases hs2:e.space > 1
 ·have hv2:v=false:=by
   rw[←hv];cases hx:emay e with
   | false=>rfl
   | true=>exact absurd (emay_iff.1 hx).s2 (by omega)
  subst hv2;clear hv;go_enter Tryz.func22,Tryz.ntmps22;go_wp2_with fail;go_ret;exact⟨rfl,HM.out⟩
 obtain⟨M,hM⟩:∃M,max3 e.time e.num e.many=M:=⟨_,rfl⟩;by_cases hmx:M < 4611686018427387904;rotate_left
 ·have hv2:v=false:=by
   rw[←hv];cases hx:emay e with
   | false=>rfl
   | true=>have ho:=emay_iff.1 hx;exact absurd (by rw[←hM];exact max3_lt.2 ⟨ho.time,ho.num,ho.many⟩) hmx
  subst hv2;have h2:decide (4611686018427387903 < M)=true:=decide_eq_true (by omega);have h3:decide ((4611686018427387903:Int) < M)=true:=decide_eq_true (by omega);clear hv hmx;go_enter Tryz.func22,Tryz.ntmps22;go_wp2_with fail;go_ret;exact⟨rfl,HM.out⟩
 have h2:decide (4611686018427387903 < M)=false:=decide_eq_false (by omega);have h3:decide ((4611686018427387903:Int) < M)=false:=decide_eq_false (by omega);by_cases htx:16384 < e.text.size
 ·have hv2:v=false:=by
   rw[←hv];cases hx:emay e with
   | false=>rfl
   | true=>exact absurd (emay_iff.1 hx).text (by omega)
  subst hv2;have d2:decide (16384 < e.text.size)=true:=decide_eq_true htx;have d3:decide ((16384:Int) < e.text.size)=true:=decide_eq_true (by omega);clear hv hmx htx;go_enter Tryz.func22,Tryz.ntmps22;go_wp2_with fail;go_ret;exact⟨rfl,HM.out⟩
 have d2:decide (16384 < e.text.size)=false:=decide_eq_false htx;have d3:decide ((16384:Int) < e.text.size)=false:=decide_eq_false (by omega);have hsum:emay e=(e.bare || framed e.kind && fmay e.f):=(by obtain⟨m1,m2,m3⟩:=max3_lt.1 (show max3 e.time e.num e.many < 4611686018427387904 by rw[hM];exact hmx);unfold emay;rw[decide_eq_true (show 1≤e.kind by omega),decide_eq_true (show e.kind≤15 by omega),decide_eq_true (show 0≤e.space by omega),decide_eq_true (show e.space≤1 by omega),decide_eq_true m1,decide_eq_true m2,decide_eq_true m3,decide_eq_true (show e.text.size≤16384 by omega)];rfl);rw[hsum]at hv;have HFr:=hide (fun w'=>framed_any w' e.kind);clear hsum hmx htx;cases hb:e.bare with
 | true=>rw[hb]at hv;have hv2:v=true:=hv.symm;subst hv2;have HB:=hide hb;clear hv hb;go_enter Tryz.func22,Tryz.ntmps22;go_wp2_with fail;refine(HBa.out _ HR.out true HB.out).mono ?_;rintro e0 w1 ⟨rfl,m1⟩;go_wp2_with fail;go_ret;exact⟨rfl,HM.out.trans m1 (by simp)⟩
 | false=>
  rw[hb]at hv;have HB:=hide hb;cases hfr:framed e.kind with
  | false=>rw[hfr]at hv HFr;have hv2:v=false:=hv.symm;subst hv2;clear hv hb hfr;go_enter Tryz.func22,Tryz.ntmps22;go_wp2_with fail;refine(HBa.out _ HR.out false HB.out).mono ?_;rintro e0 w1 ⟨rfl,m1⟩;have k0:w1.cell? ⟨w.heap.size,0,none⟩=some (.int .i64 e.kind):=(m1.blk HX.out (by simp)).cell 0;have hl:=(m1.blk HX.out (by simp)).lt;have HM1:=hide (HM.out.trans m1 (by simp));clear m1;go_wp2_with fail;refine(HFr.out _).mono ?_;rintro e0 w2 ⟨rfl,rfl⟩;go_wp2_with fail;go_ret;exact⟨rfl,HM1.out⟩
  | true=>rw[hfr]at hv HFr;have HV:Hid (fmay e.f=v):=hide hv;clear hv hb hfr;go_enter Tryz.func22,Tryz.ntmps22;go_wp2_with fail;refine(HBa.out _ HR.out false HB.out).mono ?_;rintro e0 w1 ⟨rfl,m1⟩;have hx1:=m1.blk HX.out (by simp);have k0:w1.cell? ⟨w.heap.size,0,none⟩=some (.int .i64 e.kind):=hx1.cell 0;have k6:w1.cell? ⟨w.heap.size,6,none⟩=some (.int .u64 (e.f.kind:Nat)):=hx1.cell 6;have k7:w1.cell? ⟨w.heap.size,7,none⟩=some (.int .u64 (e.f.a:Nat)):=hx1.cell 7;have k8:w1.cell? ⟨w.heap.size,8,none⟩=some (.int .u64 (e.f.b:Nat)):=hx1.cell 8;have k9:w1.cell? ⟨w.heap.size,9,none⟩=some (.int .u64 (e.f.c:Nat)):=hx1.cell 9;have k10:w1.cell? ⟨w.heap.size,10,none⟩=some (.bool e.f.fin):=hx1.cell 10;have k11:w1.cell? ⟨w.heap.size,11,none⟩=some (.string e.f.data):=hx1.cell 11;have k12:w1.cell? ⟨w.heap.size,12,none⟩=some (.string e.f.more):=hx1.cell 12;have k13:w1.cell? ⟨w.heap.size,13,none⟩=some (.slice A n c):=hx1.cell 13;have hl:=hx1.lt;have HM1:=hide (HM.out.trans m1 (by simp));have HR1:=hide (HR.out.new m1);clear m1 hx1;go_wp2_with fail;refine(HFr.out _).mono ?_;rintro e0 w2 ⟨rfl,rfl⟩;go_wp2_with fail;refine(HFm.out _ HR1.out v HV.out).mono ?_;rintro e0 w3 ⟨rfl,m3⟩;go_wp2_with fail;go_ret;exact⟨rfl,HM1.out.trans m3 (by simp)⟩
theorem esame_any (w:World) (A B:Option Addr) (n m c d:Nat) (a b:Ev) (hr:Rngs w A n a.f.list) (hs:Rngs w B m b.f.list) (v:Bool) (hv:esame a b=v):
  Calls Tryz.prog 24 #[evval A n c a,evval B m d b] w (RPost w v):=by
 have HM:=hide (((Mod.refl [] w).alloc (.cells (ecs A n c a) 38)).alloc (.cells (ecs B m d b) 38));have HR:=hide (hr.new HM.out);have HS:=hide (hs.new HM.out);have HF:=hide (fun w' (h:Rngs w' A n a.f.list) (k:Rngs w' B m b.f.list) (q:Bool) (hq:fsame a.f b.f=q)=>same_any w' A B n m c d a.f b.f h k q hq);clear hr hs;obtain⟨k1,s1,t1,n1,m1,x1,f1⟩:=a;obtain⟨k2,s2,t2,n2,m2,x2,f2⟩:=b;unfold evval fval fcs at *;unfold ecs at *;dsimp only at *;by_cases h:k1=k2;rotate_left
 ·have hv2:v=false:=(by rw[←hv];unfold esame;simp[h]);subst hv2;have e1:(k1==k2)=false:=(by rw[beq_eq_false_iff_ne];omega);clear hv h;go_enter Tryz.func24,Tryz.ntmps24;go_wp2_with fail;go_ret;exact⟨rfl,HM.out⟩
 subst h;by_cases h:s1=s2;rotate_left
 ·have hv2:v=false:=(by rw[←hv];unfold esame;simp[h]);subst hv2;have e1:(s1==s2)=false:=(by rw[beq_eq_false_iff_ne];omega);clear hv h;go_enter Tryz.func24,Tryz.ntmps24;go_wp2_with fail;go_ret;exact⟨rfl,HM.out⟩
 subst h;by_cases h:t1=t2;rotate_left
 ·have hv2:v=false:=(by rw[←hv];unfold esame;simp[h]);subst hv2;have e1:((t1:Int)==(t2:Int))=false:=(by rw[beq_eq_false_iff_ne];omega);clear hv h;go_enter Tryz.func24,Tryz.ntmps24;go_wp2_with fail;go_ret;exact⟨rfl,HM.out⟩
 subst h;by_cases h:n1=n2;rotate_left
 ·have hv2:v=false:=(by rw[←hv];unfold esame;simp[h]);subst hv2;have e1:((n1:Int)==(n2:Int))=false:=(by rw[beq_eq_false_iff_ne];omega);clear hv h;go_enter Tryz.func24,Tryz.ntmps24;go_wp2_with fail;go_ret;exact⟨rfl,HM.out⟩
 subst h;by_cases h:m1=m2;rotate_left
 ·have hv2:v=false:=(by rw[←hv];unfold esame;simp[h]);subst hv2;have e1:((m1:Int)==(m2:Int))=false:=(by rw[beq_eq_false_iff_ne];omega);clear hv h;go_enter Tryz.func24,Tryz.ntmps24;go_wp2_with fail;go_ret;exact⟨rfl,HM.out⟩
 subst h;by_cases h:x1=x2;rotate_left
 ·have hv2:v=false:=(by rw[←hv];unfold esame;simp[h]);subst hv2;have e1:(x1.toList==x2.toList)=false:=(by exact toList_ne h);clear hv h;go_enter Tryz.func24,Tryz.ntmps24;go_wp2_with fail;go_ret;exact⟨rfl,HM.out⟩
 subst h;have HV:Hid (fsame f1 f2=v):=hide (by rw[←hv];unfold esame;simp);clear hv;go_enter Tryz.func24,Tryz.ntmps24;go_wp2_with fail;refine(HF.out _ HR.out HS.out v HV.out).mono ?_;rintro e0 w1 ⟨rfl,mm⟩;go_wp2_with fail;go_ret;exact⟨rfl,HM.out.trans mm (by simp)⟩
end Go.Proofs.YtlfjhgamlkbofaaGreatDoor
namespace Go.Proofs.YtlfjhgamlkbofaaGreatDoor
open Go.RowKit Js
def ekeys:List ByteArray:= [⟨#[107,105,110,100]⟩,⟨#[116,105,109,101]⟩,⟨#[115,112,97,99,101]⟩,⟨#[110,117,109]⟩,⟨#[109,97,110,121]⟩,⟨#[116,101,120,116]⟩]
def fkey:ByteArray:=⟨#[102,114,97,109,101]⟩
def fkeys:List ByteArray:= [⟨#[107,105,110,100]⟩,⟨#[97]⟩,⟨#[98]⟩,⟨#[99]⟩,⟨#[102,105,110]⟩,⟨#[100,97,116,97]⟩,⟨#[109,111,114,101]⟩,⟨#[108,105,115,116]⟩]
def jn (n:Nat):JV:=.mk 3 (n:Int) ⟨#[]⟩ [] []
def jt (s:ByteArray):JV:=.mk 4 0 s [] []
def jb (b:Bool):JV:=.mk (if b then 2 else 1) 0 ⟨#[]⟩ [] []
def jr (r:Nat×Nat):JV:=.mk 5 0 ⟨#[]⟩ [jn r.1,jn r.2] []
def jfr (f:Fr):JV:=.mk 6 0 ⟨#[]⟩ [jn f.kind,jn f.a,jn f.b,jn f.c,jb f.fin,jt f.data,jt f.more,.mk 5 0 ⟨#[]⟩ (f.list.map jr) []] fkeys
def evalue (e:Ev):JV:=.mk 6 0 ⟨#[]⟩ ([jn e.kind.toNat,jn e.time,jn e.space.toNat,jn e.num,jn e.many,jt e.text]++ if e.bare then []else [jfr e.f]) (ekeys++ if e.bare then []else [fkey])
def bnum (v:JV):Bool:= !(decide (v.k=3) && (decide (0≤v.i) && decide (v.i≤4611686018427387903)))
def gnum (v:JV):Nat:=if bnum v then 0 else v.i.toNat
def bwords (v:JV):Bool:= !decide (v.k=4)
def btruth (v:JV):Bool:= !decide (v.k=2) && !decide (v.k=1)
def gtruth (v:JV):Bool:=decide (v.k=2)
def bpair (v:JV):Bool:= !(decide (v.k=5) && decide (v.l.length=2))
def jat (v:JV) (i:Nat):JV:=v.l.getD i jv0
def gpair (v:JV):Nat×Nat:=(gnum (jat v 0),gnum (jat v 1))
def bpairs (l:List JV):Bool:=l.any fun x=>bpair x || (bnum (jat x 0) || bnum (jat x 1))
def bshape (l:List JV):Bool:=l.any bpair
def branges (v:JV):Bool:= !decide (v.k=5) || bpairs v.l
def granges (v:JV):List (Nat×Nat):=if bshape v.l then []else v.l.map gpair
def gframe (v:JV):Fr:=⟨gnum (jat v 0),gnum (jat v 1),gnum (jat v 2),gnum (jat v 3),gtruth (jat v 4),(jat v 5).t,(jat v 6).t,granges (jat v 7)⟩
def wframe (v:JV):Bool:= !(decide (v.k=6) && decide (v.ks=fkeys))
def bframe (v:JV):Bool:=wframe v || (bnum (jat v 0) || bnum (jat v 1) || bnum (jat v 2) || bnum (jat v 3) || btruth (jat v 4) || bwords (jat v 5) || bwords (jat v 6) || branges (jat v 7) || !fmay (gframe v))
def goesOn (v:JV):Bool:=decide (6 < v.l.length)
def gev (v:JV):Ev:=⟨gnum (jat v 0),gnum (jat v 2),gnum (jat v 1),gnum (jat v 3),gnum (jat v 4),(jat v 5).t,if goesOn v then(if wframe (jat v 6)then fr0 else gframe (jat v 6))else fr0⟩
def bev (v:JV):Bool:=bnum (jat v 0) || bnum (jat v 1) || bnum (jat v 2) || bnum (jat v 3) || bnum (jat v 4) || bwords (jat v 5) || (goesOn v && (bframe (jat v 6) || !decide (v.ks.getD 6 ⟨#[]⟩=fkey)))
def wev (v:JV):Bool:= !(decide (v.k=6) && jmay 8 v && decide (6≤v.ks.length) && decide (v.ks.take 6=ekeys) && decide (v.ks.length≤7))
def eof (v:JV):Option Ev:=if wev v then none else if bev v || !emay (gev v)then none else some (gev v)
theorem bnum_jn {n:Nat} (h:n < 4611686018427387904):bnum (jn n)=false:=by unfold bnum jn JV.k JV.i;simp;omega
theorem gnum_jn {n:Nat} (h:n < 4611686018427387904):gnum (jn n)=n:=by unfold gnum;rw[bnum_jn h];rfl
theorem eshape_lt {k:Nat} {s:Shp} (h:fshape k=some s):k < 64:=by
 rcases Nat.lt_or_ge k 64 with h1 | h1
 ·exact h1
 ·unfold fshape at h
  repeat' (split at h)
  all_goals first | omega | cases h
theorem fmay_kind {f:Fr} (h:fmay f=true):f.kind < 64:=by
 unfold fmay at h;cases hs:fshape f.kind with
 | some s=>exact eshape_lt hs
 | none=>rw[hs]at h;simp only[Bool.and_eq_true]at h;have:=own_cases h.2;omega
structure FrOk (f:Fr):Prop where
 kind:f.kind < 64
 a:f.a < 4611686018427387904
 b:f.b < 4611686018427387904
 c:f.c < 4611686018427387904
 data:f.data.size≤16384
 more:f.more.size≤16
 len:f.list.length≤64
 list:∀r∈f.list,r.1 < 4611686018427387904∧r.2 < 4611686018427387904
theorem rngOk_mem:∀(l:List (Nat×Nat)) (p:Option Nat),rngOk p l=true→∀r∈l,r.1 < 4611686018427387904∧r.2 < 4611686018427387904
 | [],_,_,r,hr=>by cases hr
 | x ::t,p,h,r,hr=>by
  unfold rngOk at h
  simp only[Bool.and_eq_true,decide_eq_true_eq]at h
  rcases List.mem_cons.1 hr with rfl | hr
  ·omega
  ·exact rngOk_mem t _ h.2 r hr
theorem fmay_ok {f:Fr} (h:fmay f=true):FrOk f:=by
 have hk:=fmay_kind h;unfold fmay at h;simp only[Bool.and_eq_true,decide_eq_true_eq]at h;obtain⟨⟨⟨⟨h1,h2⟩,h3⟩,h4⟩,h5⟩:=h;have key:f.more.size≤16∧f.list.length≤64∧∀r∈f.list,r.1 < 4611686018427387904∧r.2 < 4611686018427387904:=by
  cases hs:fshape f.kind with
  | some s=>rw[hs]at h5;unfold fclear at h5;simp only[Bool.and_eq_true,decide_eq_true_eq]at h5;have e1:=h5.1.1.2;have e2:=h5.1.1.1.2;exact⟨by omega,by rw[e1];simp,by rw[e1];simp⟩
  | none=>
   rw[hs]at h5;simp only at h5;have hc:=own_cases h5;by_cases h0:f.kind=0
   ·obtain⟨_,_,e⟩:=own0 h0 h5;rw[e];exact⟨show(0:Nat)≤16 by decide,by simp,by simp⟩
   ·by_cases h8:f.kind=8
    ·obtain⟨_,e⟩:=own8 h8 h5;rw[e];exact⟨show(0:Nat)≤16 by decide,by simp,by simp⟩
    ·by_cases h24:f.kind=24
     ·obtain⟨_,_,_,hm,e⟩:=own24 h24 h5;have hl:f.list= []:=(by rw[e]);exact⟨by omega,by rw[hl];simp,by rw[hl];simp⟩
     ·obtain⟨e1,_,_,e4,e5⟩:=ownA (by omega) h5;unfold rngs at e1;simp only[Bool.and_eq_true,decide_eq_true_eq]at e1;refine⟨?_,e1.2.2,rngOk_mem _ _ e1.1⟩;by_cases h2:f.kind=2
      ·rw[(e4 h2).2.2];decide
      ·have:=(e5 (by omega)).1;omega
 exact⟨hk,h1,h2,h3,h4,key.1,key.2.1,key.2.2⟩
theorem gpair_jr {r:Nat×Nat} (h:r.1 < 4611686018427387904∧r.2 < 4611686018427387904):gpair (jr r)=r∧bpair (jr r)=false∧bnum (jat (jr r) 0)=false∧bnum (jat (jr r) 1)=false:=by refine⟨?_,rfl,bnum_jn h.1,bnum_jn h.2⟩;show(gnum (jn r.1),gnum (jn r.2))=r;rw[gnum_jn h.1,gnum_jn h.2]
theorem granges_map {l:List (Nat×Nat)} (h:∀r∈l,r.1 < 4611686018427387904∧r.2 < 4611686018427387904):granges (.mk 5 0 ⟨#[]⟩ (l.map jr) [])=l∧branges (.mk 5 0 ⟨#[]⟩ (l.map jr) [])=false:=by
 have h1:bshape (l.map jr)=false:=(by unfold bshape;rw[List.any_eq_false];intro x hx;obtain⟨r,hr,rfl⟩:=List.mem_map.1 hx;rw[(gpair_jr (h r hr)).2.1];decide);have h2:bpairs (l.map jr)=false:=(by unfold bpairs;rw[List.any_eq_false];intro x hx;obtain⟨r,hr,rfl⟩:=List.mem_map.1 hx;obtain⟨_,a,b,c⟩:=gpair_jr (h r hr);rw[a,b,c];decide);constructor
 ·unfold granges;show(if bshape (l.map jr)then []else(l.map jr).map gpair)=l;rw[h1,if_neg (by decide),List.map_map];refine(List.map_congr_left (g:=id) fun r hr=> ?_).trans (List.map_id l);exact(gpair_jr (h r hr)).1
 ·unfold branges;show(!decide ((5:Int)=5) || bpairs (l.map jr))=false;rw[h2];rfl
theorem gframe_jfr {f:Fr} (h:fmay f=true):gframe (jfr f)=f∧bframe (jfr f)=false∧wframe (jfr f)=false:=by
 have ho:=fmay_ok h;have hk:f.kind < 4611686018427387904:=by have:=ho.kind;omega
 have hg:gframe (jfr f)=f:=(by unfold gframe;show(⟨gnum (jn f.kind),gnum (jn f.a),gnum (jn f.b),gnum (jn f.c),gtruth (jb f.fin),f.data,f.more,granges (.mk 5 0 ⟨#[]⟩ (f.list.map jr) [])⟩:Fr)=f;rw[gnum_jn hk,gnum_jn ho.a,gnum_jn ho.b,gnum_jn ho.c,(granges_map ho.list).1];have:gtruth (jb f.fin)=f.fin:=(by cases f.fin <;> rfl);rw[this]);have hw:wframe (jfr f)=false:=rfl;refine⟨hg,?_,hw⟩;unfold bframe;rw[hg,hw,h];show(false || (bnum (jn f.kind) || bnum (jn f.a) || bnum (jn f.b) || bnum (jn f.c) || btruth (jb f.fin) || bwords (jt f.data) || bwords (jt f.more) || branges (.mk 5 0 ⟨#[]⟩ (f.list.map jr) []) || !true))=false;rw[bnum_jn hk,bnum_jn ho.a,bnum_jn ho.b,bnum_jn ho.c,(granges_map ho.list).2];cases f.fin <;> rfl
theorem ba_empty:(⟨#[]⟩:ByteArray)=ByteArray.empty:=rfl
theorem jmay_jn (d n:Nat) (h:0 < d):jmay d (jn n)=true:=by unfold jn;rw[jmay,jmays];simp[h,ba_empty]
theorem jmay_jt (d:Nat) (s:ByteArray) (h:0 < d):jmay d (jt s)=true:=by unfold jt;rw[jmay,jmays];simp[h]
theorem jmay_jb (d:Nat) (b:Bool) (h:0 < d):jmay d (jb b)=true:=by unfold jb;rw[jmay,jmays];cases b <;> simp[h,ba_empty]
theorem emays_all {d:Nat} :∀ {l:List JV},(∀x∈l,jmay d x=true)→jmays d l=true
 | [],_=>by rw[jmays]
 | x ::l,h=>by rw[jmays,h x (by simp),emays_all fun y hy=>h y (by simp[hy])];rfl
theorem jmay_jr (d:Nat) (r:Nat×Nat) (h:1 < d):jmay d (jr r)=true:=by unfold jr;rw[jmay,emays_all (by intro x hx;simp only[List.mem_cons,List.not_mem_nil,or_false]at hx;rcases hx with rfl | rfl <;> exact jmay_jn _ _ (by omega))];simp[ba_empty];omega
theorem jmay_jfr (d:Nat) (f:Fr) (h:3 < d):jmay d (jfr f)=true:=by
 unfold jfr
 rw[jmay,emays_all (by
  intro x hx
  simp only[List.mem_cons,List.not_mem_nil,or_false]at hx
  rcases hx with rfl | rfl | rfl | rfl | rfl | rfl | rfl | rfl
  ·exact jmay_jn _ _ (by omega)
  ·exact jmay_jn _ _ (by omega)
  ·exact jmay_jn _ _ (by omega)
  ·exact jmay_jn _ _ (by omega)
  ·exact jmay_jb _ _ (by omega)
  ·exact jmay_jt _ _ (by omega)
  ·exact jmay_jt _ _ (by omega)
  ·rw[jmay,emays_all (by
    intro x hx
    obtain⟨r,_,rfl⟩:=List.mem_map.1 hx
    exact jmay_jr _ _ (by omega))]
   simp[ba_empty];omega)]
 simp[fkeys,ba_empty];omega
theorem jmay_ev (e:Ev):jmay 8 (evalue e)=true:=by
 unfold evalue
 rw[jmay,emays_all (by
  intro x hx
  rcases List.mem_append.1 hx with hx | hx
  ·simp only[List.mem_cons,List.not_mem_nil,or_false]at hx
   rcases hx with rfl | rfl | rfl | rfl | rfl | rfl
   ·exact jmay_jn _ _ (by omega)
   ·exact jmay_jn _ _ (by omega)
   ·exact jmay_jn _ _ (by omega)
   ·exact jmay_jn _ _ (by omega)
   ·exact jmay_jn _ _ (by omega)
   ·exact jmay_jt _ _ (by omega)
  ·cases hb:e.bare with
   | true=>rw[hb]at hx;simp at hx
   | false=>
    rw[hb]at hx
    simp only[Bool.false_eq_true,if_false,List.mem_singleton]at hx
    subst hx
    exact jmay_jfr _ _ (by omega))]
 cases hb:e.bare <;> simp[ekeys,ba_empty]
theorem jrng_jn {n:Nat} (h:n < 4611686018427387904):jrng (jn n)=true:=by unfold jn;rw[jrng,jrngs];simp[i64B];omega
theorem jrng_zero (k:Int) (t:ByteArray):jrng (.mk k 0 t [] [])=true:=by rw[jrng,jrngs];simp[i64B]
theorem jrngs_all:∀ {l:List JV},(∀x∈l,jrng x=true)→jrngs l=true
 | [],_=>by rw[jrngs]
 | x ::l,h=>by rw[jrngs,h x (by simp),jrngs_all fun y hy=>h y (by simp[hy])];rfl
theorem jrng_list {k:Int} {t:ByteArray} {l:List JV} {ks:List ByteArray} (h:∀x∈l,jrng x=true):jrng (.mk k 0 t l ks)=true:=by rw[jrng,jrngs_all h];simp[i64B]
theorem jrng_jfr {f:Fr} (h:fmay f=true):jrng (jfr f)=true:=by
 have ho:=fmay_ok h;have hk:=ho.kind;refine jrng_list fun x hx=> ?_;simp only[List.mem_cons,List.not_mem_nil,or_false]at hx;rcases hx with rfl | rfl | rfl | rfl | rfl | rfl | rfl | rfl
 ·exact jrng_jn (by omega)
 ·exact jrng_jn ho.a
 ·exact jrng_jn ho.b
 ·exact jrng_jn ho.c
 ·exact jrng_zero _ _
 ·exact jrng_zero _ _
 ·exact jrng_zero _ _
 ·refine jrng_list fun x hx=> ?_;obtain⟨r,hr,rfl⟩:=List.mem_map.1 hx;refine jrng_list fun x hx=> ?_;simp only[List.mem_cons,List.not_mem_nil,or_false]at hx;rcases hx with rfl | rfl
  ·exact jrng_jn (ho.list r hr).1
  ·exact jrng_jn (ho.list r hr).2
theorem bare_may {e:Ev} (h:emay e=true) (hb:e.bare=false):fmay e.f=true:=by
 rcases(emay_iff.1 h).fr with h1 | ⟨_,h1⟩
 ·rw[Ev.bare_iff.2 h1]at hb;cases hb
 ·exact h1
theorem jrng_ev {e:Ev} (h:emay e=true):jrng (evalue e)=true:=by
 have ho:=emay_iff.1 h;have h1:=ho.k2;have h2:=ho.s2;refine jrng_list fun x hx=> ?_;rcases List.mem_append.1 hx with hx | hx
 ·simp only[List.mem_cons,List.not_mem_nil,or_false]at hx;rcases hx with rfl | rfl | rfl | rfl | rfl | rfl
  ·exact jrng_jn (by omega)
  ·exact jrng_jn ho.time
  ·exact jrng_jn (by omega)
  ·exact jrng_jn ho.num
  ·exact jrng_jn ho.many
  ·exact jrng_zero _ _
 ·cases hb:e.bare with
  | true=>rw[hb]at hx;simp at hx
  | false=>rw[hb]at hx;simp only[Bool.false_eq_true,if_false,List.mem_singleton]at hx;subst hx;exact jrng_jfr (bare_may h hb)
theorem eof_value {e:Ev} (h:emay e=true):eof (evalue e)=some e:=by
 have ho:=emay_iff.1 h;have h1:=ho.k1;have h2:=ho.k2;have h3:=ho.s1;have h4:=ho.s2;have hw:wev (evalue e)=false:=(by unfold wev;rw[jmay_ev];cases hb:e.bare <;> simp[evalue,hb,JV.k,JV.ks,ekeys]);have q0:∀t,jat (.mk 6 0 ⟨#[]⟩ ([jn e.kind.toNat,jn e.time,jn e.space.toNat,jn e.num,jn e.many,jt e.text]++ t) (ekeys++ if e.bare then []else [fkey])) 0=jn e.kind.toNat:=fun _=>rfl;have e1:((gnum (jn e.kind.toNat):Nat):Int)=e.kind:=(by rw[gnum_jn (by omega)];omega);have e2:((gnum (jn e.space.toNat):Nat):Int)=e.space:=(by rw[gnum_jn (by omega)];omega);have hg:gev (evalue e)=e∧bev (evalue e)=false:=by
  cases hb:e.bare with
  | true=>
   have hf:=Ev.bare_iff.1 hb;have ev:evalue e=.mk 6 0 ⟨#[]⟩ [jn e.kind.toNat,jn e.time,jn e.space.toNat,jn e.num,jn e.many,jt e.text] ekeys:=(by unfold evalue;rw[hb];rfl);rw[ev];constructor
   ·show(⟨(gnum (jn e.kind.toNat):Nat),(gnum (jn e.space.toNat):Nat),gnum (jn e.time),gnum (jn e.num),gnum (jn e.many),e.text,fr0⟩:Ev)=e;rw[e1,e2,gnum_jn ho.time,gnum_jn ho.num,gnum_jn ho.many,←hf]
   ·show(bnum (jn e.kind.toNat) || bnum (jn e.time) || bnum (jn e.space.toNat) || bnum (jn e.num) || bnum (jn e.many) || bwords (jt e.text) || (false && _))=false;rw[bnum_jn (by omega),bnum_jn ho.time,bnum_jn (by omega),bnum_jn ho.num,bnum_jn ho.many];rfl
  | false=>
   have hm:=bare_may h hb;obtain⟨g1,g2,g3⟩:=gframe_jfr hm;have ev:evalue e=.mk 6 0 ⟨#[]⟩ [jn e.kind.toNat,jn e.time,jn e.space.toNat,jn e.num,jn e.many,jt e.text,jfr e.f] (ekeys++ [fkey]):=(by unfold evalue;rw[hb];rfl);rw[ev];constructor
   ·show(⟨(gnum (jn e.kind.toNat):Nat),(gnum (jn e.space.toNat):Nat),gnum (jn e.time),gnum (jn e.num),gnum (jn e.many),e.text,if wframe (jfr e.f)then fr0 else gframe (jfr e.f)⟩:Ev)=e;rw[e1,e2,gnum_jn ho.time,gnum_jn ho.num,gnum_jn ho.many,g1,g3];rfl
   ·show(bnum (jn e.kind.toNat) || bnum (jn e.time) || bnum (jn e.space.toNat) || bnum (jn e.num) || bnum (jn e.many) || bwords (jt e.text) || (true && (bframe (jfr e.f) || !decide (fkey=fkey))))=false;rw[bnum_jn (by omega),bnum_jn ho.time,bnum_jn (by omega),bnum_jn ho.num,bnum_jn ho.many,g2];simp[bwords,jt,JV.k]
 unfold eof;rw[hw,hg.2,hg.1,h];rfl
def cut10:List UInt8→Option (List UInt8×List UInt8)
 | []=>none
 | c ::t=>if c=10 then some ([],t)else(cut10 t).map fun x=>(c ::x.1,x.2)
theorem cut10_app:∀(p r:List UInt8),10∉p→cut10 (p++ 10 ::r)=some (p,r)
 | [],r,_=>by rw[List.nil_append,cut10,if_pos rfl]
 | c ::p,r,h=>by
  rw[List.cons_append,cut10,if_neg (fun e=>h (by simp[e])),cut10_app p r (fun e=>h (by simp[e]))]
  rfl
theorem cut10_some:∀ {s a b:List UInt8},cut10 s=some (a,b)→s=a++ 10 ::b
 | [],a,b,h=>by cases h
 | c ::s,a,b,h=>by
  rw[cut10]at h
  split at h
  ·rename_i e;cases h;rw[e];rfl
  ·obtain⟨x,hx,h2⟩:=Option.map_eq_some_iff.1 h
   cases h2
   have:=cut10_some (s:=s) (a:=x.1) (b:=x.2) hx
   rw[List.cons_append,←this]
def srec (e:Ev):List UInt8:=30 ::(jwr (evalue e)++ [10])
def sread (s:List UInt8):Option (Ev×List UInt8):=(cut10 s).bind fun x=>if x.1.head? =some 30 then(if(jread x.1.tail).2.2=0 then(eof (jread x.1.tail).1).map fun e=>(e,x.2)else none)else none
theorem esc_no (c:UInt8):(10:UInt8)∉esc c:=by have h:∀n:Fin 256,(10:UInt8)∉esc (UInt8.ofNat n.val):=(by decide+kernel);have:=h ⟨c.toNat,c.toNat_lt⟩;simpa using this
theorem quo_no (s:List UInt8):(10:UInt8)∉quo s:=by
 unfold quo;intro h;rcases List.mem_cons.1 h with h | h
 ·exact absurd h (by decide)
 ·rcases List.mem_append.1 h with h | h
  ·obtain⟨c,_,hc⟩:=List.mem_flatMap.1 h;exact esc_no c hc
  ·exact absurd (List.mem_singleton.1 h) (by decide)
theorem dec_no (n:Nat):(10:UInt8)∉Lib.decDigits n:=by intro h;have:=List.all_eq_true.1 (dec_all n).1 10 h;exact absurd this (by decide)
theorem itoa_no (i:Int):(10:UInt8)∉Lib.itoa i:=by
 unfold Lib.itoa
 split
 ·intro h;rcases List.mem_cons.1 h with h | h
  ·exact absurd h (by decide)
  ·exact dec_no _ h
 ·exact dec_no _
theorem jkeyed_no (obj:Bool) (ks:List ByteArray):(10:UInt8)∉jkeyed obj ks:=by
 unfold jkeyed
 split
 ·intro h;rcases List.mem_append.1 h with h | h
  ·exact quo_no _ h
  ·exact absurd (List.mem_singleton.1 h) (by decide)
 ·simp
mutual
theorem jwr_no:∀v:JV,(10:UInt8)∉jwr v
 | .mk k i t l ks=>by
  rw[jwr]
  split
  ·decide
  ·split
   ·decide
   ·split
    ·decide
    ·split
     ·exact itoa_no i
     ·split
      ·exact quo_no _
      ·split
       ·intro h
        rcases List.mem_cons.1 h with h | h
        ·exact absurd h (by decide)
        ·rcases List.mem_append.1 h with h | h
         ·exact jwrs_no true l ks h
         ·exact absurd (List.mem_singleton.1 h) (by decide)
       ·intro h
        rcases List.mem_cons.1 h with h | h
        ·exact absurd h (by decide)
        ·rcases List.mem_append.1 h with h | h
         ·exact jwrs_no false l ks h
         ·exact absurd (List.mem_singleton.1 h) (by decide)
theorem jwrs_no (obj:Bool):∀(l:List JV) (ks:List ByteArray),(10:UInt8)∉jwrs obj l ks
 | [],ks=>by rw[jwrs];simp
 | x ::l,ks=>by
  rw[jwrs]
  intro h
  rcases List.mem_append.1 h with h | h
  ·rcases List.mem_append.1 h with h | h
   ·exact jkeyed_no obj ks h
   ·exact jwr_no x h
  ·exact jwrsR_no obj l _ h
theorem jwrsR_no (obj:Bool):∀(l:List JV) (ks:List ByteArray),(10:UInt8)∉jwrsR obj l ks
 | [],ks=>by rw[jwrsR];simp
 | x ::l,ks=>by
  rw[jwrsR]
  intro h
  simp only[List.mem_cons,List.mem_append]at h
  rcases h with h | h
  ·exact absurd h (by decide)
  ·rcases h with(h | h) | h
   ·exact jkeyed_no obj ks h
   ·exact jwr_no x h
   ·exact jwrsR_no obj l _ h
end
theorem sread_put {e:Ev} (h:emay e=true) (r:List UInt8):sread (srec e++ r)=some (e,r):=by
 unfold sread srec;have hc:cut10 (30 ::(jwr (evalue e)++ [10])++ r)=some (30 ::jwr (evalue e),r):=by
  have:=cut10_app (30 ::jwr (evalue e)) r (fun h=>by
   rcases List.mem_cons.1 h with h | h
   ·exact absurd h (by decide)
   ·exact jwr_no _ h)
  simpa using this
 have key:∀x:JV×Int×Int,x=(evalue e,0,0)→(if x.2.2=0 then(eof x.1).map fun e=>(e,r)else none)=some (e,r):=(by rintro _ rfl;rw[if_pos rfl,eof_value h];rfl);rw[hc];exact key _ (jread_wr (jmay_ev e) (jrng_ev h))
theorem eof_may {v:JV} {e:Ev} (h:eof v=some e):emay e=true:=by
 unfold eof at h
 split at h
 ·cases h
 ·split at h
  ·cases h
  ·rename_i h2;cases h;simp only[Bool.or_eq_true,Bool.not_eq_true',not_or,Bool.not_eq_false]at h2;exact h2.2
theorem sreads:Reads srec sread:=by
 refine⟨fun e r h=>sread_put h r,fun e _=>by unfold srec;simp,fun s e r h=> ?_⟩;unfold sread at h;obtain⟨⟨a,b⟩,h1,h⟩:=Option.bind_eq_some_iff.1 h;simp only at h
 split at h
 ·split at h
  ·obtain⟨e',h2,h3⟩:=Option.map_eq_some_iff.1 h;cases h3;refine⟨eof_may h2,?_⟩;rw[cut10_some h1];simp;omega
  ·cases h
 ·cases h
end Go.Proofs.YtlfjhgamlkbofaaGreatDoor
namespace Go.Proofs.YtlfjhgamlkbofaaGreatDoor
open Go.RowKit
structure EV where
 e:Ev
 A:Option Addr
 c:Nat
def EV.val (x:EV):Value:=evval x.A x.e.f.list.length x.c x.e
def EV.cells (x:EV):List Value:=(ecs x.A x.e.f.list.length x.c x.e).toList
structure EIn (w:World) (A:Option Addr) (l:List EV):Prop where
 els:Elems w A EV.cells 14 l
 rng:∀x∈l,Rngs w x.A x.e.f.list.length x.e.f.list
theorem EIn.new {w w':World} {A:Option Addr} {l:List EV} (h:EIn w A l) (m:Mod [] w w'):EIn w' A l:=⟨h.els.new m,fun x hx=>(h.rng x hx).new m⟩
def outE (O:Ev→List UInt8) (l:List EV):List UInt8:=(l.map EV.e).flatMap O
def mayE (l:List EV):Bool:=l.all fun x=>emay x.e
theorem outE_snoc (O:Ev→List UInt8) (l:List EV) (x:EV):outE O (l++ [x])=outE O l++ O x.e:=by unfold outE;simp
theorem mayE_snoc (l:List EV) (x:EV):mayE (l++ [x])=(mayE l && emay x.e):=by unfold mayE;simp
theorem outE_le {O:Ev→List UInt8} {N:Nat} (hO:∀e,emay e=true→(O e).length≤N):∀l:List EV,mayE l=true→(outE O l).length≤N * l.length
 | [],_=>by simp[outE]
 | x ::l,h=>by
  unfold mayE at h
  rw[List.all_cons,Bool.and_eq_true]at h
  have h1:=outE_le hO l h.2
  have h2:=hO x.e h.1
  have:outE O (x ::l)=O x.e++ outE O l:=rfl
  rw[this,List.length_append,List.length_cons,Nat.mul_add]
  omega
theorem take_snoc_of {α:Type} {l:List α} {j:Nat} {x:α} (h:l[j]? =some x):l.take (j+1)=l.take j++ [x]:=by rw[List.take_add_one,h];rfl
def allTold (O:Ev→List UInt8) (l:List EV):Value:=.tuple #[str (if mayE l then outE O l else []),.int .i64 (if mayE l then 0 else 2)]
theorem allTold_no {O:Ev→List UInt8} {l:List EV} (h:mayE l=false):allTold O l=.tuple #[str [],.int .i64 2]:=by unfold allTold;rw[h];rfl
theorem allTold_yes {O:Ev→List UInt8} {l:List EV} (h:mayE l=true):allTold O l=.tuple #[str (outE O l),.int .i64 0]:=by unfold allTold;rw[h];rfl
theorem bin1_any (w:World) (A:Option Addr) (n c:Nat) (e:Ev) (hr:Rngs w A n e.f.list) (hm:emay e=true):
  Calls Tryz.prog 44 #[evval A n c e] w fun r w'=>r=.returned (str (eone e))∧Mod [] w w':=by
 have HM:=hide ((Mod.refl [] w).alloc (.cells (ecs A n c e) 38));have hle:=ebytes_le hm;obtain⟨D,hD⟩:∃D:ByteArray,(⟨(ebytes e).toArray⟩:ByteArray)=D:=⟨_,rfl⟩;have hds:D.size≤40000:=(by rw[←hD];exact hle);have hl:=elaid_any _ A n c e (hr.new HM.out) hm;unfold str at hl;rw[hD]at hl;have HL:=hide hl;have HT:=hide (fun w'=>etext_any w' D (by omega));have HE:Hid (eone e=etxt D.data.toList):=hide (by rw[←hD];rfl);have XL:=hide (Blk.new w 38 (ecs A n c e)).range;clear hr hm hle hD hl;unfold evval at *;go_enter Tryz.func44,Tryz.ntmps44;go_wp2_with (refine wpList_load_mid rfl 38 _ rfl w.heap.size 0 rfl (ecs A n c e).toList _ XL.out rfl rfl (by kernel_rfl) ?_);have hl:Calls Tryz.prog 46 #[.agg (ecs A n c e).toList.toArray] _ _:=HL.out;refine hl.mono ?_;rintro e0 w1 ⟨rfl,m1⟩;have HM1:=hide (HM.out.trans m1 (by simp));clear m1 hl;go_wp2_with fail;refine(HT.out _).mono ?_;rintro e0 w2 ⟨rfl,m2⟩;go_wp2_with fail;go_ret;exact⟨by rw[HE.out];rfl,HM1.out.trans m2 (by simp)⟩
theorem all_any (w:World) (A:Option Addr) (c:Nat) (l:List EV) (h:EIn w A l) (hl:l.length≤100000) (g:Nat) (O:Ev→List UInt8) (hO:∀e,emay e=true→(O e).length≤1100000)
  (hent:∀args w,(callFunc g args).run Tryz.prog w=.ok (.enter g args) w)
  (hg:∀w',Mod [] w w'→∀x∈l,emay x.e=true→Calls Tryz.prog g #[x.val] w' fun r w''=>r=.returned (str (O x.e))∧Mod [] w' w''):
  Calls Tryz.prog 43 #[.slice A l.length c,.func (.func g) #[] #[]] w fun r w'=>r=.returned (allTold O l)∧Mod [] w w':=by
 have HE:=hide h;have HG:=hide hg;have HO:=hide hO;obtain⟨b,hb⟩:∃b,w.heap.size=b:=⟨_,rfl⟩;have hbn:=BldO.new w w.heap.size (Nat.le_refl _);have HM0:=hide ((Mod.refl [] w).alloc (.cells #[.pointer none,.slice none 0 0] 102));rw[hb]at hbn;have HB0:Hid (BldO (w.alloc (.cells #[.pointer none,.slice none 0 0] 102)) b b (outE O (l.take 0))):=hide hbn;have HW:=hide (Nat.le_of_eq hb);have hll:=h.els.len;clear h hg hO hbn;go_enter Tryz.func43,Tryz.ntmps43;go_wp2_with fail;clear hb;go_loopw [11] (fun i wr=>∃k:Nat,i=.int .i64 (k:Int)∧k≤l.length∧BldO wr b b (outE O (l.take k))∧Mod [] w wr∧mayE (l.take k)=true) (fun i _=>l.length - (intOf i).toNat)
 case atStart=>exact⟨0,rfl,Nat.zero_le _,HB0.out,HM0.out,rfl⟩
 case round=>
  clear HB0 HM0;obtain⟨k,rfl,hk,hbd,hm,hmay⟩:=hrel;have HBd:=hide hbd;have HM:=hide hm;have HMay:=hide hmay;have hbs:=hbd.lt;clear hbd hm hmay;by_cases hlt:k < l.length
  ·obtain⟨x,hx⟩:∃x,l[k]? =some x:=⟨_,List.getElem?_eq_getElem hlt⟩;have HX:=hide hx;obtain⟨gx,o,rfl,hgx,hcl⟩:=HE.out.els.at_ hx;have xl:wr.rangeAt gx (o+k * 14) x.cells:=fun j v hv=>(HM.out.cell (p:=⟨gx,o+k * 14+j,none⟩) hgx (by simp)).trans (hcl j v hv);have XL:=hide xl;clear xl hcl hx;go_wp2_with (first | (refine wpList_load_mid rfl 38 _ rfl gx (o+k * 14) rfl x.cells _ XL.out rfl rfl (by kernel_rfl) ?_) | (refine wpList_store_open rfl 38 _ _ rfl rfl _ x.cells.toArray rfl rfl (by kernel_rfl) rfl (by kernel_rfl) ?_;intro w3 m3 b3 s3;have HM3:=hide (HM.out.trans m3 (by simp));have HBd3:=hide (HBd.out.mod m3 (by simp));have HX3:=hide b3;have XL2:=hide b3.range;clear m3 b3 s3 XL) | (refine wpList_load_mid rfl 38 _ rfl wr.heap.size 0 rfl x.cells _ XL2.out rfl rfl (by kernel_rfl) ?_));have hr3:=(HE.out.rng x (List.mem_of_getElem? HX.out)).new HM3.out;obtain⟨v,hv⟩:∃v,emay x.e=v:=⟨_,rfl⟩;have hmy:Calls Tryz.prog 22 #[.agg x.cells.toArray] w3 _:=emay_any w3 x.A x.e.f.list.length x.c x.e hr3 v hv;have HV:=hide hv;clear hr3 hv;refine hmy.mono ?_;rintro e0 w4 ⟨rfl,m4⟩;have HM4:=hide (HM3.out.trans m4 (by simp));have HBd4:=hide (HBd3.out.mod m4 (by simp));have HX4:=hide (m4.blk HX3.out (by simp));clear hmy m4 XL2;cases v with
   | false=>have hno:mayE l=false:=(by unfold mayE;rw[List.all_eq_false];exact⟨x,List.mem_of_getElem? HX.out,by rw[HV.out];decide⟩);have HNo:=hide hno;clear hno;go_wp2_with fail;go_ret2;exact⟨by rw[allTold_no HNo.out];rfl,HM4.out⟩
   | true=>
    have XL4:=hide HX4.out.range;go_wp2_with (refine wpList_load_mid rfl 38 _ rfl wr.heap.size 0 rfl x.cells _ XL4.out rfl rfl (by kernel_rfl) ?_);have hone:Calls Tryz.prog g #[.agg x.cells.toArray] w4 _:=HG.out w4 HM4.out x (List.mem_of_getElem? HX.out) HV.out;refine hone.mono ?_;rintro e0 w5 ⟨rfl,m5⟩;have hol:=HO.out x.e HV.out;have htl:=outE_le HO.out (l.take k) HMay.out;have htk:(l.take k).length≤k:=List.length_take_le _ _;have hb5:=HBd4.out.mod m5 (by simp);have hlb:=hb5.lt;have hsz:(outE O (l.take k)).length+(⟨(O x.e).toArray⟩:ByteArray).size≤140737488355328:=by have e1:(⟨(O x.e).toArray⟩:ByteArray).size=(O x.e).length:=rfl;rw[e1];have:1100000 * (l.take k).length≤1100000 * k:=Nat.mul_le_mul_left _ htk;omega
    have HB5:=hide hb5;have HM5:=hide (HM4.out.trans m5 (by simp));have HSz:=hide hsz;have hlb2:b≤w5.heap.size:=Nat.le_of_lt hlb;clear hone m5 XL4 hol htl htk hb5 hsz hlb;go_wp2_with fail;refine(bwrite_any w5 b b (outE O (l.take k)) ⟨(O x.e).toArray⟩ HB5.out HSz.out hlb2).mono ?_;rintro e0 w6 ⟨rfl,hb6,hs6⟩;have HB6:Hid (BldO w6 b b (outE O (l.take (k+1)))):=hide (by rw[take_snoc_of HX.out,outE_snoc];exact hb6);have HM6:=hide (hs6.mod HM5.out HW.out);have HMay6:Hid (mayE (l.take (k+1))=true):=hide (by rw[take_snoc_of HX.out,mayE_snoc,HMay.out,HV.out];rfl);clear hb6 hs6 hlb2;go_wp2_with fail;go_roundw
    case rel=>exact⟨k+1,by go_num,by omega,HB6.out,HM6.out,HMay6.out⟩
    case measure=>simp[intOf];omega
  ·have hkl:k=l.length:=(by omega);have HKl:=hide hkl;clear hkl;go_wp2_with fail;refine(bstring_any wr b b _ HBd.out (Nat.le_of_lt hbs)).mono ?_;rintro e0 w3 ⟨rfl,hs3⟩;go_wp2_with fail;go_ret2;have hall:mayE l=true:=by have:=HMay.out;rw[HKl.out,List.take_length]at this;exact this
   rw[allTold_yes hall];have hkk:=HKl.out;subst hkk;rw[List.take_length];exact⟨rfl,hs3.mod HM.out HW.out⟩
theorem bin_any (w:World) (A:Option Addr) (c:Nat) (l:List EV) (h:EIn w A l) (hl:l.length≤100000):
  Calls Tryz.prog 18 #[.slice A l.length c] w fun r w'=>r=.returned (allTold eone l)∧Mod [] w w':=by
 have H:=hide (all_any w A c l h hl 44 eone (fun e he=>by have:=eone_le he;omega) (fun args w=>by kernel_rfl) (fun w' m x hx hm=>bin1_any w' x.A x.e.f.list.length x.c x.e ((h.rng x hx).new m) hm));obtain⟨S,N,hS⟩:∃S N,allTold eone l=.tuple #[S,N]:=⟨_,_,rfl⟩;rw[hS]at H ⊢;clear h hS;go_enter Tryz.func18,Tryz.ntmps18;go_wp2_with fail;refine H.out.mono ?_;rintro e0 w1 ⟨rfl,m1⟩;go_wp2_with fail;go_ret2;exact⟨rfl,m1⟩
def tookV (s:List UInt8):Value:=match ptext s with
 | some x=> .tuple #[str x.1,str x.2,.bool true]
 | none=> .tuple #[str [],str [],.bool false]
theorem tookV_no {s:List UInt8} (h:ptext s=none):tookV s=.tuple #[str [],str [],.bool false]:=by unfold tookV;rw[h]
theorem tookV_yes {s a b:List UInt8} (h:ptext s=some (a,b)):tookV s=.tuple #[str a,str b,.bool true]:=by unfold tookV;rw[h]
theorem str_extract0 (q:ByteArray) (n:Nat):(.string (q.extract 0 n):Value)=str (q.data.toList.take n):=by unfold str;congr 1;apply bytes_eq;rw[Lib.extract_data];simp
theorem str_extract1 (q:ByteArray) (n:Nat):(.string (q.extract n q.size):Value)=str (q.data.toList.drop n):=by unfold str;congr 1;apply bytes_eq;rw[Lib.extract_data,List.take_of_length_le (by rw[List.length_drop,bytes_len];omega)]
theorem etook_any (w:World) (s:ByteArray) (hs:s.size≤9223372036854700000):
  Calls Tryz.prog 34 #[.string s] w fun r w'=>r=.returned (tookV s.data.toList)∧Mod [] w w':=by
 have H:=enum_any w s hs;obtain⟨t,ht⟩:∃t,short s.data.toList=t:=⟨_,rfl⟩;have hrl:=short_rest_le s.data.toList;have hnl:=short_n_lt s.data.toList;rw[ht]at H hrl hnl;rw[bytes_len]at hrl;obtain⟨q,hq⟩:∃q:ByteArray,(⟨t.rest.toArray⟩:ByteArray)=q:=⟨_,rfl⟩;have hql:q.size=t.rest.length:=(by rw[←hq];rfl);have hqd:q.data.toList=t.rest:=(by rw[←hq]);have hqs:q.size≤9223372036854700000:=(by omega);unfold str at H;rw[hq]at H;have H1:=hide H;have HQd:=hide hqd;have HT:=hide ht;have HQl:=hide hql;have qw:IntKind.u64.wrap (q.size:Int)=(q.size:Int):=IntWalk.u64_in _ (by omega);clear H hq hql hqd hrl ht;cases hok:t.ok with
 | false=>have HNo:Hid (ptext s.data.toList=none):=hide (by unfold ptext pnum;rw[HT.out,hok];rfl);rw[hok]at H1;clear hok;go_enter Tryz.func34,Tryz.ntmps34;go_wp2_with fail;refine H1.out.mono ?_;rintro e0 w1 ⟨rfl,m1⟩;go_wp2_with fail;refine bodyPost_ret (results_tmp3 rfl _ _ _) rfl ?_;exact⟨by rw[tookV_no HNo.out];rfl,m1⟩
 | true=>
  rw[hok]at H1;have HP:Hid (ptext s.data.toList=ptake t.n t.rest):=hide (by unfold ptext pnum;rw[HT.out,hok];rfl);clear hok;by_cases hn:t.n≤q.size
  ·have HY:Hid (ptext s.data.toList=some (t.rest.take t.n,t.rest.drop t.n)):=hide (by rw[HP.out];unfold ptake;rw[if_pos (by have:=HQl.out;omega)]);have n0:(0:Int)≤(t.n:Int):=(by omega);have n1:(t.n:Int)≤(q.size:Int):=(by omega);have n2:¬q.size < t.n:=(by omega);go_enter Tryz.func34,Tryz.ntmps34;go_wp2_with fail;refine H1.out.mono ?_;rintro e0 w1 ⟨rfl,m1⟩;have HM1:=hide m1;clear m1;go_wp2_with fail;go_quiet (fail);go_wp2_with fail;refine bodyPost_ret (results_tmp3 rfl _ _ _) rfl ?_;refine⟨?_,HM1.out.drewN _⟩;rw[tookV_yes HY.out,←HQd.out,←str_extract0,←str_extract1];rfl
  ·have HNo:Hid (ptext s.data.toList=none):=hide (by rw[HP.out];unfold ptake;rw[if_neg (by have:=HQl.out;omega)]);have n2:q.size < t.n:=(by omega);clear hn;go_enter Tryz.func34,Tryz.ntmps34;go_wp2_with fail;refine H1.out.mono ?_;rintro e0 w1 ⟨rfl,m1⟩;go_wp2_with fail;refine bodyPost_ret (results_tmp3 rfl _ _ _) rfl ?_;exact⟨by rw[tookV_no HNo.out];rfl,m1⟩
end Go.Proofs.YtlfjhgamlkbofaaGreatDoor
namespace Go.Proofs.YtlfjhgamlkbofaaGreatDoor
open Go.RowKit Js
mutual
def jsz:JV→Nat
 | .mk k i t l ks=>t.size+ksz ks+jszs l+1
def jszs:List JV→Nat
 | []=>0
 | x ::l=>jsz x+jszs l
end
mutual
theorem jwr_sz:∀v:JV,jrng v=true→(jwr v).length+9≤30 * jsz v
 | .mk k i t l ks,hr=>by
  rw[jrng,Bool.and_eq_true]at hr
  rw[jwr,jsz]
  have h2:=jwrs_sz true l ks hr.2
  have h3:=jwrs_sz false l ks hr.2
  have h4:=itoa_le hr.1
  have h5:=quo_le t.data.toList
  have e:t.data.toList.length=t.size:=Array.length_toList
  rw[e]at h5
  (repeat' split) <;> (try simp only[List.length_append,List.length_cons,List.length_nil]) <;> omega
theorem jwrs_sz (obj:Bool):∀(l:List JV) (ks:List ByteArray),jrngs l=true→(jwrs obj l ks).length≤30 * jszs l+6 * ksz ks
 | [],ks,_=>by simp[jwrs]
 | x ::l,ks,hr=>by
  rw[jrngs,Bool.and_eq_true]at hr
  rw[jwrs,jszs]
  have h1:=jwr_sz x hr.1
  have h2:=jwrsR_sz obj l ks.tail hr.2
  have h3:=jkeyed_le obj ks
  have h4:=ksz_head ks
  simp only[List.length_append]
  omega
theorem jwrsR_sz (obj:Bool):∀(l:List JV) (ks:List ByteArray),jrngs l=true→(jwrsR obj l ks).length≤30 * jszs l+6 * ksz ks
 | [],ks,_=>by simp[jwrsR]
 | x ::l,ks,hr=>by
  rw[jrngs,Bool.and_eq_true]at hr
  rw[jwrsR,jszs]
  have h1:=jwr_sz x hr.1
  have h2:=jwrsR_sz obj l ks.tail hr.2
  have h3:=jkeyed_le obj ks
  have h4:=ksz_head ks
  simp only[List.length_append,List.length_cons]
  omega
end
theorem jszs_app:∀l m:List JV,jszs (l++ m)=jszs l+jszs m
 | [],m=>by rw[jszs];simp
 | x ::l,m=>by rw[List.cons_append,jszs,jszs,jszs_app l m];omega
theorem jsz_jn (n:Nat):jsz (jn n)=1:=by unfold jn;rw[jsz,jszs];rfl
theorem jsz_jb (b:Bool):jsz (jb b)=1:=by unfold jb;rw[jsz,jszs];rfl
theorem jsz_jt (s:ByteArray):jsz (jt s)=s.size+1:=by unfold jt;rw[jsz,jszs];rfl
theorem jszs_jr:∀l:List (Nat×Nat),jszs (l.map jr)=3 * l.length
 | []=>by rw[List.map_nil,jszs];rfl
 | r ::l=>by
  rw[List.map_cons,jszs,jszs_jr l,List.length_cons]
  have:jsz (jr r)=3:=by unfold jr;rw[jsz,jszs,jszs,jszs,jsz_jn,jsz_jn];rfl
  omega
theorem jsz_ev {e:Ev} (h:emay e=true):jsz (evalue e)≤34000:=by
 have ho:=emay_iff.1 h;have ht:=ho.text;unfold evalue;rw[jsz,jszs_app];simp only[jszs,jsz_jn,jsz_jt];have hk:∀b:Bool,ksz (ekeys++ if b then []else [fkey])≤100:=(by decide+kernel);have:=hk e.bare;have h0:(⟨#[]⟩:ByteArray).size=0:=rfl;cases hb:e.bare with
 | true=>rw[hb]at this;simp only[if_true,jszs]at this ⊢;omega
 | false=>have hf:=fmay_ok (bare_may h hb);have h1:=hf.data;have h2:=hf.more;have h3:=hf.len;rw[hb]at this;have hks:ksz fkeys≤100:=(by decide+kernel);have hj:jsz (jfr e.f)≤e.f.data.size+e.f.more.size+3 * e.f.list.length+200:=(by unfold jfr;rw[jsz];simp only[jszs,jsz_jn,jsz_jb,jsz_jt];rw[jsz,jszs_jr];have h9:ksz []=0:=rfl;omega);simp only[Bool.false_eq_true,if_false,jszs]at this ⊢;omega
theorem jwr_ev {e:Ev} (h:emay e=true):(jwr (evalue e)).length≤1020000:=by have:=jwr_sz (evalue e) (jrng_ev h);have:=jsz_ev h;omega
theorem srec_le {e:Ev} (h:emay e=true):(srec e).length≤1020002:=by have:=jwr_ev h;unfold srec;rw[List.length_cons,List.length_append];simp only[List.length_cons,List.length_nil];omega
theorem jwr_pos (v : JV) : 1 ≤ (jwr v).length := by
  obtain ⟨k, i, t, l, ks⟩ := v;rw [jwr]
  repeat' split
  all_goals first
    | (unfold Lib.itoa; split
       · simp
       · rw [Lib.decDigits]; split <;> simp)
    | (unfold quo; simp)
    | simp
theorem jwrsR_ge (obj:Bool):∀(l:List JV) (ks:List ByteArray),l.length≤(jwrsR obj l ks).length∧∀x∈l,(jwr x).length≤(jwrsR obj l ks).length
 | [],ks=>by simp
 | y ::l,ks=>by
  obtain⟨h1,h2⟩:=jwrsR_ge obj l ks.tail
  rw[jwrsR]
  simp only[List.length_cons,List.length_append]
  refine⟨by omega,fun x hx=> ?_⟩
  rcases List.mem_cons.1 hx with rfl | hx
  ·omega
  ·have:=h2 x hx;omega
theorem jwrs_ge (obj:Bool):∀(l:List JV) (ks:List ByteArray),l.length≤(jwrs obj l ks).length∧∀x∈l,(jwr x).length≤(jwrs obj l ks).length
 | [],ks=>by simp
 | y ::l,ks=>by
  obtain⟨h1,h2⟩:=jwrsR_ge obj l ks.tail
  have h3:=jwr_pos y
  rw[jwrs]
  simp only[List.length_cons,List.length_append]
  refine⟨by omega,fun x hx=> ?_⟩
  rcases List.mem_cons.1 hx with rfl | hx
  ·omega
  ·have:=h2 x hx;omega
theorem jmays_mem {d:Nat} :∀ {l:List JV} {x:JV},jmays d l=true→x∈l→jmay d x=true
 | [],x,_,h=>by cases h
 | y ::l,x,h,hx=>by
  rw[jmays,Bool.and_eq_true]at h
  rcases List.mem_cons.1 hx with rfl | hx
  ·exact h.1
  ·exact jmays_mem h.2 hx
theorem jwr_ge {d:Nat} {v:JV} (h:jmay d v=true):v.l.length≤(jwr v).length∧∀x∈v.l,(jwr x).length≤(jwr v).length∧jmay (d - 1) x=true:=by
 obtain⟨k,i,t,l,ks⟩:=v;rw[jmay]at h;simp only[Bool.and_eq_true,Bool.or_eq_true,decide_eq_true_eq]at h;obtain⟨⟨⟨⟨⟨⟨h1,h2⟩,h3⟩,h4⟩,h5⟩,h6⟩,h7⟩:=h;show l.length≤_∧∀x∈l,_;by_cases hl:l= []
 ·subst hl;simp
 ·have hk:k=5∨k=6:=by
   rcases h5 with h5 | h5
   ·exact h5
   ·exact absurd (by simpa using h5) hl
  rw[jwr];rcases hk with rfl | rfl
  ·rw[if_neg (by decide),if_neg (by decide),if_neg (by decide),if_neg (by decide),if_neg (by decide),if_neg (by decide)];obtain⟨a1,a2⟩:=jwrs_ge false l ks;simp only[List.length_cons,List.length_append];exact⟨by omega,fun x hx=>⟨by have:=a2 x hx;omega,jmays_mem h7 hx⟩⟩
  ·rw[if_neg (by decide),if_neg (by decide),if_neg (by decide),if_neg (by decide),if_neg (by decide),if_pos rfl];obtain⟨a1,a2⟩:=jwrs_ge true l ks;simp only[List.length_cons,List.length_append];exact⟨by omega,fun x hx=>⟨by have:=a2 x hx;omega,jmays_mem h7 hx⟩⟩
theorem jat_ge {d : Nat} {v : JV} (h : jmay d v = true) (i : Nat) : (jwr (jat v i)).length ≤ (jwr v).length + 4 ∧ (jmay (d - 1) (jat v i) = true ∨ jat v i = jv0) := by
  unfold jat;by_cases hi : i < v.l.length
  · have hx : v.l.getD i jv0 ∈ v.l := (by simp [hi]);have := (jwr_ge h).2 _ hx;exact ⟨by omega, .inl this.2⟩
  · have : v.l.getD i jv0 = jv0 := (by simp [hi]);rw [this]
    exact ⟨by have : (jwr jv0).length = 4 := by decide +kernel
              omega, .inr rfl⟩
theorem jat_ge0 {d:Nat} {v:JV} (h:jmay d v=true∨v=jv0) (i:Nat):(jwr (jat v i)).length≤(jwr v).length+4∧(jmay (d - 1) (jat v i)=true∨jat v i=jv0):=by
 rcases h with h | rfl
 ·exact jat_ge h i
 ·exact⟨by show(jwr jv0).length≤_;omega,.inr rfl⟩
theorem len_ge {d:Nat} {v:JV} (h:jmay d v=true∨v=jv0):v.l.length≤(jwr v).length:=by
 rcases h with h | rfl
 ·exact(jwr_ge h).1
 ·exact Nat.zero_le _
theorem jat67_le {s:List UInt8} (h:jmay 8 (jread s).1=true) (hr:(jread s).2.2=0) (hs:s.length≤1000000):(jat (jat (jread s).1 6) 7).l.length≤100000000:=by have h0:(jwr (jread s).1).length+9≤30 * s.length:=(by obtain⟨x,hj⟩:∃x,jread s=x:=⟨_,rfl⟩;rw[hj]at hr ⊢;obtain⟨v,a,e⟩:=x;simp only at hr;subst hr;exact jread_len hj);have h1:=jat_ge h 6;have h2:=jat_ge0 h1.2 7;have h3:=len_ge h2.2;omega
end Go.Proofs.YtlfjhgamlkbofaaGreatDoor
