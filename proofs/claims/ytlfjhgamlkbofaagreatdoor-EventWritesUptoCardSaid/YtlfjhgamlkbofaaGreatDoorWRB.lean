/-
  Contracts of the functions that the laws of this seat reach, and plain laws, part 17 of 17; no condition.
-/
import Derived.Test.YtlfjhgamlkbofaaGreatDoorWE6
import Derived.Test.YtlfjhgamlkbofaaGreatDoorWE3
import Derived.Test.YtlfjhgamlkbofaaGreatDoorWRA
import Derived.Test.YtlfjhgamlkbofaaGreatDoorWJ1
import Derived.Test.YtlfjhgamlkbofaaGreatDoorWC
import Derived.Test.YtlfjhgamlkbofaaGreatDoorWE4
import Derived.Test.YtlfjhgamlkbofaaGreatDoorWRD
import Derived.Test.YtlfjhgamlkbofaaGreatDoorWRC
set_option linter.unusedVariables false
set_option linter.unusedSimpArgs false
set_option linter.unnecessarySimpa false
set_option maxRecDepth 100000
set_option maxHeartbeats 16000000
namespace Go.Proofs.YtlfjhgamlkbofaaGreatDoor
open Go.RowKit Js
theorem qx1 (w:World) (A:Option Addr) (n c:Nat) (f:Fr) (hr:Rngs w A n f.list):Calls Tryz.prog 53 #[q17 A n c f] w (RPost w (qc6 f fr0)):=by have HM:=q00 ((Mod.refl [] w).alloc (.cells (fcs A n c f) 36));have HC:=q00 (jg2 _ A none n 0 c 0 f fr0 (hr.new HM.out) (Rngs.nil _) _ rfl);clear hr;unfold q17 fcs at *;go_enter Tryz.func53,Tryz.ntmps53;go_wp2_with fail;refine HC.out.mono ?_;rintro e w1 ⟨rfl,m⟩;go_wp2_with fail;go_ret;exact⟨rfl,HM.out.trans m (by simp)⟩
theorem j19 (w:World) (A:Option Addr) (n c:Nat) (e:Ev) (hr:Rngs w A n e.f.list):Calls Tryz.prog 23 #[q46 A n c e] w (RPost w (q28 e)):=by
 have HM:=q00 ((Mod.refl [] w).alloc (.cells (ecs A n c e) 38));have HN:=q00 (fun w' (m:Mod [] w w')=>qx1 w' A n c e.f (hr.new m));have HF:=q00 (fun w' (m:Mod [] w w')=>qc3 w' A n c e.f (hr.new m));have HI:=q00 (@emay_iff e);have HV:Hid (∀b,qc6 e.f fr0=b→EvOk e∨¬EvOk e):=q00 (fun _ _=>Classical.em _);clear hr HV;obtain⟨k,s,t,nu,mu,x,f⟩:=e;unfold q46 ecs q17 fcs at *;dsimp only at *;rcases hem (k < 1)with g0 | g0;rotate_left;rcases hem (15 < k)with g1 | g1;rotate_left;rcases hem (s < 0)with g2 | g2;rotate_left;rcases hem (1 < s)with g3 | g3;rotate_left;rcases hem (4611686018427387904≤t)with g4 | g4;rotate_left;rcases hem (4611686018427387904≤nu)with g5 | g5;rotate_left;rcases hem (4611686018427387904≤mu)with g6 | g6;rotate_left;rcases hem (16384 < x.size)with g7 | g7;rotate_left
 ·have z0:decide (k < 1)=false:=decide_eq_false g0.out;have z1:decide (15 < k)=false:=decide_eq_false g1.out;have z2:decide (s < 0)=false:=decide_eq_false g2.out;have z3:decide (1 < s)=false:=decide_eq_false g3.out;have ⟨z4,y4⟩:=qw1 g4;have ⟨z5,y5⟩:=qw1 g5;have ⟨z6,y6⟩:=qw1 g6;have ⟨z7,y7⟩:=zs8 g7;obtain⟨b,hb⟩:∃b,qc6 f fr0=b:=⟨_,rfl⟩;obtain⟨q,hq⟩:∃q,q31 f=q:=⟨_,rfl⟩
  have HE:Hid (q28 ⟨k,s,t,nu,mu,x,f⟩=(b || (qq3 k && q))):=q00 (by
   have g0:=g0.out;have g1:=g1.out;have g2:=g2.out;have g3:=g3.out;have g4:=g4.out;have g5:=g5.out;have g6:=g6.out;have g7:=g7.out
   rw[←hb,←hq]
   unfold q28 Ev.bare
   simp only[decide_eq_true (show 1≤k by omega),decide_eq_true (show k≤15 by omega),decide_eq_true (show 0≤s by omega),decide_eq_true (show s≤1 by omega),decide_eq_true (show t < 4611686018427387904 by omega),decide_eq_true (show nu < 4611686018427387904 by omega),decide_eq_true (show mu < 4611686018427387904 by omega),decide_eq_true (show x.size≤16384 by omega),Bool.true_and]
   (try rfl))
  rw[hb]at HN;rw[hq]at HF;clear hb hq;go_enter Tryz.func23,Tryz.ntmps23;go_wp2_with fail;refine(HN.out _ HM.out).mono ?_;rintro e0 w1 ⟨rfl,m1⟩;have HM1:=q00 (HM.out.trans m1 (by simp));have HB1:=q00 (m1.blk (Blk.new w 38 (ecs A n c ⟨k,s,t,nu,mu,x,f⟩)) (by simp));unfold ecs at HB1;have hl:=HB1.out.lt;have c0:=HB1.out.cell 0;have c6:=HB1.out.cell 6;have c7:=HB1.out.cell 7;have c8:=HB1.out.cell 8;have c9:=HB1.out.cell 9;have c10:=HB1.out.cell 10;have c11:=HB1.out.cell 11;have c12:=HB1.out.cell 12;have c13:=HB1.out.cell 13;clear m1;cases b with
  | true=>go_wp2_with fail;go_ret;exact RPost.of (by rw[HE.out];rfl) HM1.out
  | false=>
   go_wp2_with fail;refine(HF.out _ HM1.out).mono ?_;rintro e0 w2 ⟨rfl,m2⟩;have HM2:=q00 (HM1.out.trans m2 (by simp));have HB2:=q00 (m2.blk HB1.out (by simp));have hl:=HB2.out.lt;have c0:=HB2.out.cell 0;clear m2;cases q with
   | false=>go_wp2_with fail;go_ret;exact RPost.of (by rw[HE.out,Bool.and_false];rfl) HM2.out
   | true=>
    have HK:Hid (qq3 k=(decide (k=2) || decide (k=8) || decide (k=9))):=q00 rfl;rcases hem (k=2)with h2 | h2;rotate_left;rcases hem (k=8)with h8 | h8;rotate_left;rcases hem (k=9)with h9 | h9;all_goals
     try have z2:(k==2)=true:=by simpa using h2.out
     try have z2:(k==2)=false:=by simpa using h2.out
     try have z8:(k==8)=true:=by simpa using h8.out
     try have z8:(k==8)=false:=by simpa using h8.out
     try have z9:(k==9)=true:=by simpa using h9.out
     try have z9:(k==9)=false:=by simpa using h9.out
     go_wp2_with fail
     go_ret
     refine RPost.of ?_ HM2.out
     rw[HE.out,HK.out]
     (try simp only[decide_eq_true h2.out]) <;> (try simp only[decide_eq_false h2.out]) <;> (try simp only[decide_eq_true h8.out]) <;> (try simp only[decide_eq_false h8.out]) <;> (try simp only[decide_eq_true h9.out]) <;> (try simp only[decide_eq_false h9.out]) <;> (try simp)
 all_goals
  have HV:Hid (q28 ⟨k,s,t,nu,mu,x,f⟩=false):=q00 (Bool.eq_false_iff.2 fun h=>by
   have h:=HI.out.1 h
   have h1:=h.k1;have h2:=h.k2;have h3:=h.s1;have h4:=h.s2;have h5:=h.time;have h6:=h.num;have h7:=h.many;have h8:=h.text
   simp only at h1 h2 h3 h4 h5 h6 h7 h8
   first | (have:=g7.out;omega) | (have:=g6.out;omega) | (have:=g5.out;omega) | (have:=g4.out;omega) | (have:=g3.out;omega) | (have:=g2.out;omega) | (have:=g1.out;omega) | (have:=g0.out;omega))
  try have z0:decide (k < 1)=true:=decide_eq_true g0.out
  try have z0:decide (k < 1)=false:=decide_eq_false g0.out
  try have z1:decide (15 < k)=true:=decide_eq_true g1.out
  try have z1:decide (15 < k)=false:=decide_eq_false g1.out
  try have z2:decide (s < 0)=true:=decide_eq_true g2.out
  try have z2:decide (s < 0)=false:=decide_eq_false g2.out
  try have z3:decide (1 < s)=true:=decide_eq_true g3.out
  try have z3:decide (1 < s)=false:=decide_eq_false g3.out
  try have ⟨z4,y4⟩:=z22 g4
  try have ⟨z4,y4⟩:=qw1 g4
  try have ⟨z5,y5⟩:=z22 g5
  try have ⟨z5,y5⟩:=qw1 g5
  try have ⟨z6,y6⟩:=z22 g6
  try have ⟨z6,y6⟩:=qw1 g6
  try have ⟨z7,y7⟩:=zw2 g7
  go_enter Tryz.func23,Tryz.ntmps23
  go_wp2_with fail
  go_ret
  exact RPost.of HV.out HM.out
theorem j20 (w:World) (n:Nat) (hn:n < 4611686018427387904):Calls Tryz.prog 61 #[.int .u64 (n:Nat)] w fun r w'=>r=.returned (.agg (jnN n).cells)∧Mod [] w w':=by have q:IntKind.i64.wrap (n:Int)=(n:Int):=IntWalk.i64_in _ (by omega);go_enter Tryz.func61,Tryz.ntmps61;go_wp2_with (refine q06 rfl 43 _ _ rfl rfl _ (jnN n).cells rfl rfl (by kernel_rfl) rfl (by kernel_rfl) ?_;intro w6 m6 b6 s6;have HM:=q00 m6;have HB:=q00 b6;clear m6 b6 s6);refine bodyPost_ret (results_cell_row rfl _ _ w.heap.size 43 (jnN n).cells (0,0) _ rfl HB.out Tryz.underlying43 rfl (by kernel_rfl)) rfl ?_;exact⟨rfl,HM.out⟩
theorem qx2 (w:World) (s:ByteArray):Calls Tryz.prog 62 #[.string s] w fun r w'=>r=.returned (.agg (jtN s).cells)∧Mod [] w w':=by go_enter Tryz.func62,Tryz.ntmps62;go_wp2_with (refine q06 rfl 43 _ _ rfl rfl _ (jtN s).cells rfl rfl (by kernel_rfl) rfl (by kernel_rfl) ?_;intro w6 m6 b6 s6;have HM:=q00 m6;have HB:=q00 b6;clear m6 b6 s6);refine bodyPost_ret (results_cell_row rfl _ _ w.heap.size 43 (jtN s).cells (0,0) _ rfl HB.out Tryz.underlying43 rfl (by kernel_rfl)) rfl ?_;exact⟨rfl,HM.out⟩
theorem jl5 {P:Program} {T e:TypeId} {z:Value} {size bytes:Nat} (hT:P.underlying T=some (.slice e)) (hinfo:(P.info? e).map (fun i=>(i.zero,i.size,i.bytes))=some (some z,size,bytes)) (hzs:z.cells.size=size)
  (w:World) (ty:TypeId) (base:Nat) (v:Value) (n m:Nat) (xs:List Value) (h:w.ownsRow base e size v n xs) (hbase:base≤w.heap.size) (news:List Value) (hnl:news.length=m * size) (hone:∀u∈news,u.oneCell'=true)
  (hb:(n+m) * bytes≤140737488355328) (hb63:n+m < 9223372036854775807) (g:Nat) (hc:∀j u,news[j]? =some u→w.cell? ⟨g,j,none⟩=some u):
  ∃A c w',(Builtin.append_ #[T,T] ty #[v,.slice (some ⟨g,0,none⟩) m m]).run P w=.ok (.slice A (n+m) c) w'∧w'.ownsRow base e size (.slice A (n+m) c) (n+m) (xs++ news)∧Mod v.ownBlock.toList w w'∧
   ((Value.slice A (n+m) c).ownBlock=v.ownBlock∨(Value.slice A (n+m) c).ownBlock=some w.heap.size):=by
 obtain⟨i0,hi,hz0,hz1,hz2⟩:=qw7 hinfo;have hsrc:Src P size T (.slice (some ⟨g,0,none⟩) m m) m news w:=Src.ofSlice w hT _ m m _ hnl (fun j u hu=>by have:=hc j u hu;rwa [Addr.add_lit,Nat.zero_add]) hone;obtain⟨v',w',h1,h2,h3,h4⟩:=jk (P:=P) ty base hi hz1 hzs v n _ h (AppSrc.of_src hT hi hz0 hz1 hsrc) (by simp only[maxLen];omega) (by rw[hz2];exact hb) hbase;obtain⟨A,c,rfl⟩:=qi9 h2;exact⟨A,c,w',h1,h2,Mod.of_grown h3,h4⟩
section
variable {w w' W:World} {base vb:Nat} {kd:Int} {A B:Option Addr} {c d:Nat} {l:List JN} {ks:List ByteArray}
theorem MS.keys (h:MS w base vb kd A c l B d ks) (hvb:vb < base) (hb:base≤w.heap.size) (hn:ks.length≤1000000) (S:List ByteArray) (hS:S.length≤1000) (zb:Nat) (hz:Blk w zb 9 (S.map Value.string).toArray):
  ∃B' d' w6,(Builtin.append_ #[41,41] 41 #[.slice B ks.length d,.slice (some ⟨zb,0,none⟩) S.length S.length]).run Tryz.prog w=.ok (.slice B' (ks.length+S.length) d') w6∧
   Blk w6 vb 43 (JN.mk kd 0 ⟨#[]⟩ A c l B d ks).cells∧
   MS (w6.setCell ⟨vb,4,none⟩ (.slice B' (ks.length+S.length) d')) base vb kd A c l B' d' (ks++ S)∧
   (∀W,Mod [] W w→W.heap.size≤vb→Mod [] W (w6.setCell ⟨vb,4,none⟩ (.slice B' (ks.length+S.length) d')))∧Mod (Value.slice B ks.length d).ownBlock.toList w w6∧(∀k,(Value.slice B' (ks.length+S.length) d').ownBlock=some k→(Value.slice B ks.length d).ownBlock=some k∨k=w.heap.size):=by
 obtain⟨B',d',w6,h1,h2,h3,h4⟩:=jl5 (P:=Tryz.prog) Tryz.underlying41 jk1 rfl w 41 base _ _ S.length _ h.ko hb (S.map Value.string) (by simp) (by simp[Value.oneCell']) (by omega) (by omega) zb (fun j u hu=>by rw[hz.cell j,List.getElem?_toArray,hu]);have own:∀k∈(Value.slice B ks.length d).ownBlock.toList,base≤k:=fun k hk=>(by rw[Option.mem_toList]at hk;exact(h.ko.lt k hk).1);have hv6:Blk w6 vb 43 (JN.mk kd 0 ⟨#[]⟩ A c l B d ks).cells:=h3.blk h.v (fun hk=>by have:=own _ hk;omega);have hl:(ks++ S).length=ks.length+S.length:=List.length_append;refine⟨B',d',w6,h1,hv6,⟨?_,?_,?_,fun x hx=> ?_⟩,fun W hF hW=> ?_,h3,fun k hk=>h4.imp (fun h=>h.symm.trans hk) (fun h=>by rw[h]at hk;exact(Option.some.inj hk).symm)⟩
 ·have:=hv6.set_ 4 (.slice B' (ks.length+S.length) d');show Blk _ vb 43 #[.int .i64 kd,.int .i64 0,.string ⟨#[]⟩,.slice A l.length c,.slice B' (ks++ S).length d'];rw[hl];exact this
 ·have hl6:=h3.own h.lo (fun k hk hm=>h.apart k hk (by rw[Option.mem_toList]at hm;exact hm));exact qg0 hl6 (fun k hk=>by have:=(h.lo.lt k hk).1;show k≠vb;omega) _
 ·rw[hl,List.map_append];refine qg0 h2 (fun k hk=> ?_) _;have:=(h2.lt k hk).1;show k≠vb;omega
 ·obtain⟨a,b⟩:=h.inn x hx;have m:Mod ((Value.slice B ks.length d).ownBlock.toList++ [vb]) w (w6.setCell ⟨vb,4,none⟩ (.slice B' (ks.length+S.length) d')):=(h3.mono (fun y hy=> .inl (by simp only[List.mem_append];exact .inl hy))).setCell (p:=⟨vb,4,none⟩) (.inl (by simp)) _;refine⟨JIn.mod m (fun g hg hm=> ?_) a,fun g hg=> ?_⟩
  ·obtain⟨b1,b2,b3,b4⟩:=b g hg;simp only[List.mem_append,Option.mem_toList,List.mem_singleton]at hm;rcases hm with hm | hm
   ·exact b4 hm
   ·omega
  ·obtain⟨b1,b2,b3,b4⟩:=b g hg;refine⟨b1,Nat.lt_of_lt_of_le b2 m.size,b3,?_⟩;rw[hl];rcases h4 with h4 | h4
   ·rw[h4];exact b4
   ·rw[h4];intro e;cases e;omega
 ·exact(hF.trans h3 (fun y hy=> .inr (by have:=own y hy;omega))).setCell (.inr hW) _
theorem MS.vals (h:MS w base vb kd A c l B d ks) (hvb:vb < base) (hb:base≤w.heap.size) (hn:l.length≤1000000) (xs:List JN) (hX:xs.length≤1000)
  (hx:∀x∈xs,JIn w x∧∀g∈q41 x,base≤g∧g < w.heap.size∧(Value.slice A l.length c).ownBlock≠some g∧(Value.slice B ks.length d).ownBlock≠some g) (zb:Nat) (hz:Blk w zb 43 (q26 xs).toArray):
  ∃A' c' w6,(Builtin.append_ #[40,40] 40 #[.slice A l.length c,.slice (some ⟨zb,0,none⟩) xs.length xs.length]).run Tryz.prog w=.ok (.slice A' (l.length+xs.length) c') w6∧
   Blk w6 vb 43 (JN.mk kd 0 ⟨#[]⟩ A c l B d ks).cells∧
   MS (w6.setCell ⟨vb,3,none⟩ (.slice A' (l.length+xs.length) c')) base vb kd A' c' (l++ xs) B d ks∧
   (∀W,Mod [] W w→W.heap.size≤vb→Mod [] W (w6.setCell ⟨vb,3,none⟩ (.slice A' (l.length+xs.length) c')))∧Mod (Value.slice A l.length c).ownBlock.toList w w6:=by
 obtain⟨A',c',w6,h1,h2,h3,h4⟩:=jl5 (P:=Tryz.prog) Tryz.underlying40 jk9 rfl w 40 base _ _ xs.length _ h.lo hb (q26 xs) (qe2 xs) (by
   intro u hu
   unfold q26 at hu
   obtain⟨x,_,hu⟩:=List.mem_flatMap.1 hu
   cases x
   simp[JN.cells]at hu
   rcases hu with rfl | rfl | rfl | rfl | rfl <;> rfl) (by omega) (by omega) zb (fun j u hu=>by
  rw[hz.cell j,List.getElem?_toArray,hu])
 have own:∀k∈(Value.slice A l.length c).ownBlock.toList,base≤k:=fun k hk=>(by rw[Option.mem_toList]at hk;exact(h.lo.lt k hk).1);have hv6:Blk w6 vb 43 (JN.mk kd 0 ⟨#[]⟩ A c l B d ks).cells:=h3.blk h.v (fun hk=>by have:=own _ hk;omega);have hl:(l++ xs).length=l.length+xs.length:=List.length_append;have m:Mod ((Value.slice A l.length c).ownBlock.toList++ [vb]) w (w6.setCell ⟨vb,3,none⟩ (.slice A' (l.length+xs.length) c')):=(h3.mono (fun y hy=> .inl (by simp only[List.mem_append];exact .inl hy))).setCell (p:=⟨vb,3,none⟩) (.inl (by simp)) _;have inn:∀x,JIn w x→(∀g∈q41 x,base≤g∧g < w.heap.size∧(Value.slice A l.length c).ownBlock≠some g∧(Value.slice B ks.length d).ownBlock≠some g)→JIn (w6.setCell ⟨vb,3,none⟩ (.slice A' (l.length+xs.length) c')) x∧∀g∈q41 x,base≤g∧g < (w6.setCell ⟨vb,3,none⟩ (.slice A' (l.length+xs.length) c')).heap.size∧(Value.slice A' (l++ xs).length c').ownBlock≠some g∧(Value.slice B ks.length d).ownBlock≠some g:=by
  intro x a b;refine⟨JIn.mod m (fun g hg hm=> ?_) a,fun g hg=> ?_⟩
  ·obtain⟨b1,b2,b3,b4⟩:=b g hg;simp only[List.mem_append,Option.mem_toList,List.mem_singleton]at hm;rcases hm with hm | hm
   ·exact b3 hm
   ·omega
  ·obtain⟨b1,b2,b3,b4⟩:=b g hg;refine⟨b1,Nat.lt_of_lt_of_le b2 m.size,?_,b4⟩;rw[hl];rcases h4 with h4 | h4
   ·rw[h4];exact b3
   ·rw[h4];intro e;cases e;omega
 refine⟨A',c',w6,h1,hv6,⟨?_,?_,?_,fun x hx'=> ?_⟩,fun W hF hW=> ?_,h3⟩
 ·have:=hv6.set_ 3 (.slice A' (l.length+xs.length) c');show Blk _ vb 43 #[.int .i64 kd,.int .i64 0,.string ⟨#[]⟩,.slice A' (l++ xs).length c',.slice B ks.length d];rw[hl];exact this
 ·rw[hl];have e:q26 (l++ xs)=q26 l++ q26 xs:=(by unfold q26;exact List.flatMap_append);rw[e];refine qg0 h2 (fun k hk=> ?_) _;have:=(h2.lt k hk).1;show k≠vb;omega
 ·have hk6:=h3.own h.ko (fun k hk hm=>h.apart k (by rw[Option.mem_toList]at hm;exact hm) hk);exact qg0 hk6 (fun k hk=>by have:=(h.ko.lt k hk).1;show k≠vb;omega) _
 ·rcases List.mem_append.1 hx' with hx' | hx'
  ·exact inn x (h.inn x hx').1 (h.inn x hx').2
  ·exact inn x (hx x hx').1 (hx x hx').2
 ·exact(hF.trans h3 (fun y hy=> .inr (by have:=own y hy;omega))).setCell (.inr hW) _
end
structure RV (w v:World) (ec:Array Value):Prop where
 m:Mod [] w v
 e:Blk v w.heap.size 38 ec
 r:Blk v (w.heap.size+1) 43 zcs
theorem RV.new {w v v':World} {ec:Array Value} (h:RV w v ec) (m:Mod [] v v'):RV w v' ec:=⟨h.m.trans m (by simp),m.blk h.e (by simp),m.blk h.r (by simp)⟩
theorem j79 {v:World} {g n c:Nat} {A:Option Addr} {e:Ev} {ec:Array Value} (h:Blk v g 38 ec) (hec:ecs A n c e=ec):v.rangeAt g 6 (fcs A n c e.f).toList:=by
 subst hec;intro j u hj;rw[h.cell]
 match j,hj with
 | 0,hj=>exact hj
 | 1,hj=>exact hj
 | 2,hj=>exact hj
 | 3,hj=>exact hj
 | 4,hj=>exact hj
 | 5,hj=>exact hj
 | 6,hj=>exact hj
 | 7,hj=>exact hj
 | j+8,hj=>cases hj
theorem qx9 {w:World} {base:Nat} {P Q:Nat→Prop} {l:List JN} (h:∀x∈l,∃k i t,x=.mk k i t none 0 [] none 0 []):∀x∈l,JIn w x∧∀g∈q41 x,base≤g∧g < w.heap.size∧P g∧Q g:=by intro x hx;obtain⟨k,i,t,rfl⟩:=h x hx;exact⟨JIn.plain _ _ _ _,fun g hg=>by simp[q41,JFoots]at hg⟩
theorem jq0 (w : World) (A : Option Addr) (c : Nat) (e : Ev) (hr : Rngs w A e.f.list.length e.f.list) : Calls Tryz.prog 28 #[q46 A e.f.list.length c e] w (jh4 e w) := by
  obtain ⟨ec, hec⟩ : ∃ ec, ecs A e.f.list.length c e = ec := ⟨_, rfl⟩;have HEc := q00 hec;have HEz : Hid (ec.size = 14) := q00 (by rw [← hec]; rfl);obtain ⟨w1, hw1⟩ : ∃ w1, (w.alloc (.cells ec 38)).alloc (.cells zcs 43) = w1 := ⟨_, rfl⟩;have H1 : Hid (RV w w1 ec) := q00 (by rw [← hw1];refine ⟨((Mod.refl [] w).alloc _).alloc _, (Blk.new w 38 ec).alloc _, ?_⟩;have := Blk.new (w.alloc (.cells ec 38)) 43 zcs;rw [World.size_alloc] at this;exact this);have HRgw := q00 (fun w' (m : Mod [] w w') => hr.new m);obtain ⟨v, hv⟩ : ∃ v, q28 e = v := ⟨_, rfl⟩;have hmy := j19 w1 A e.f.list.length c e (hr.new H1.out.m);have HMv := q00 hv;unfold q46 at hmy ⊢;rw [hec, hv] at hmy;rw [hec];have HMy := q00 hmy;have XL1 := q00 H1.out.e.range;clear hr hv hmy hec;go_enter Tryz.func28, Tryz.ntmps28;go_upto_region 1 with fail;rw [show (w.alloc (.cells ec 38)).alloc (.cells #[.int .i64 0, .int .i64 0, .string ⟨#[]⟩, .slice none 0 0, .slice none 0 0] 43) = w1 from hw1];clear hw1;go_wp2_with (refine wpList_load_mid rfl 38 _ rfl w.heap.size 0 rfl ec.toList _ XL1.out rfl rfl (by rw [Array.length_toList, HEz.out]; kernel_rfl) ?_);refine HMy.out.mono ?_;rintro e0 w2 ⟨rfl, m2⟩;have H2 := q00 (H1.out.new m2);clear m2 HMy XL1 H1;cases v with
  | false =>
    go_wp2_with (refine q01 rfl 43 _ _ rfl rfl (w.heap.size + 1) 43 zcs zcs H2.out.r rfl rfl (by kernel_rfl) rfl (by kernel_rfl) ?_; intro w9 m9 b9 s9; have HM9 := q00 (H2.out.m.trans m9 (by intro x hx; right; simp at hx; omega)); have HB9 := q00 b9; clear m9 b9 s9);refine bodyPost_ret (q02 rfl _ _ (w.heap.size + 1) 43 zcs _ rfl HB9.out Tryz.underlying43 rfl (by kernel_rfl)) rfl ?_;refine ⟨JN.mk 0 0 ⟨#[]⟩ none 0 [] none 0 [], ?_, ?_, JIn.plain _ _ _ _, HM9.out⟩
    · rw [HMv.out]; rfl
    · rw [HMv.out]; rfl
  | true =>
    have HO := q00 (emay_iff.1 HMv.out);obtain ⟨kn, hkn⟩ : ∃ kn, e.kind.toNat = kn := ⟨_, rfl⟩;obtain ⟨sn, hsn⟩ : ∃ sn, e.space.toNat = sn := ⟨_, rfl⟩;have HKn := q00 hkn;have HSn := q00 hsn;clear hkn hsn;go_upto_region 4 with (refine q06 rfl 43 _ _ rfl rfl zcs (JN.mk 6 0 ⟨#[]⟩ none 0 [] none 0 []).cells rfl rfl (by kernel_rfl) rfl (by kernel_rfl) ?_; intro w3 m3 b3 s3; have HN3 := q00 m3; have HB3 := q00 b3; clear m3 b3 s3);obtain ⟨vb, hvb⟩ : ∃ g, w2.heap.size = g := ⟨_, rfl⟩;have Hvb := q00 hvb;rw [hvb] at HB3 ⊢;clear hvb;have HS3 := q00 (MS.fresh HB3.out (vb + 1));have HVb : Hid (w.heap.size + 1 < vb) := q00 (by rw [← Hvb.out]; exact H2.out.r.lt);have A3 := (Mod.refl [] w3).alloc (.cells (ekeys.map Value.string).toArray 9);obtain ⟨B5, d5, X5, hrun, hv6, hms, hmod, hm6⟩ := (HS3.out.mod A3 (by simp)).keys (Nat.lt_succ_self vb) (by have := HB3.out.lt; simp; omega) (Nat.zero_le _) ekeys (by decide) w3.heap.size (Blk.new w3 9 (ekeys.map Value.string).toArray);replace hrun : (Builtin.append_ #[41, 41] 41 #[.slice none 0 0, .slice (some ⟨w3.heap.size, 0, none⟩) 6 6]).run Tryz.prog (w3.alloc (.cells (ekeys.map Value.string).toArray 9)) = .ok (.slice B5 6 d5) X5 := hrun;replace hms : MS (X5.setCell ⟨vb, 4, none⟩ (.slice B5 6 d5)) (vb + 1) vb 6 none 0 [] B5 d5 ekeys := hms;have HM5 := q00 (hmod w2 (HN3.out.trans A3 (by simp)) (Nat.le_of_eq Hvb.out));obtain ⟨w5, hw5⟩ : ∃ x, X5.setCell ⟨vb, 4, none⟩ (.slice B5 6 d5) = x := ⟨_, rfl⟩;replace HM5 : Hid (Mod [] w2 w5) := q00 (by rw [← hw5]; exact HM5.out);rw [hw5] at hms;have HS5 := q00 hms;have HRun := q00 hrun;have q4 : w3.cell? ⟨vb, 4, none⟩ = some (.slice none 0 0) := HS3.out.v.cell 4;have r4 : X5.cell? ⟨vb, 4, none⟩ = some (.slice none 0 0) := hv6.cell 4;have f4 : X5.frozen? ⟨vb, 4, none⟩ = false := hv6.frozen 4;have l4 := hv6.lt;have l5 := HB3.out.lt;clear A3 hrun hv6 hms hmod hm6;go_upto_region 5 with (at_builtin; refine Lib.wpList_append_run _ rfl (.tmp 16) (.tmp 17) 41 41 rfl (.slice none 0 0) (.slice (some ⟨w3.heap.size, 0, none⟩) 6 6) rfl rfl (.slice B5 6 d5) X5 HRun.out ?_);clear q4 r4 f4 l4 l5 hw5 HRun;have H5 := q00 (H2.out.new HM5.out);have b1 : kn < 4611686018427387904 := by have := HO.out.k2; have := HKn.out; omega
    have b2 : e.time < 4611686018427387904 := HO.out.time;have b3 : sn < 4611686018427387904 := by have := HO.out.s2; have := HSn.out; omega
    have b4 : e.num < 4611686018427387904 := HO.out.num;have b5 : e.many < 4611686018427387904 := HO.out.many;have q1 : IntKind.u64.wrap e.kind = ((kn : Nat) : Int) := by have := HO.out.k1; have := HO.out.k2; have := HKn.out; rw [IntWalk.u64_in _ (by omega)]; omega
    have q2 : IntKind.u64.wrap e.space = ((sn : Nat) : Int) := by have := HO.out.s1; have := HO.out.s2; have := HSn.out; rw [IntWalk.u64_in _ (by omega)]; omega
    have y0 : ∀ i : Fam (Mod [] w5), i.w.cell? ⟨w.heap.size, 0, none⟩ = some (.int .i64 e.kind) := q09 ((H5.out.e.cell 0).trans (by rw [← HEc.out]; rfl)) (by simp);have y1 : ∀ i : Fam (Mod [] w5), i.w.cell? ⟨w.heap.size, 1, none⟩ = some (.int .i64 e.space) := q09 ((H5.out.e.cell 1).trans (by rw [← HEc.out]; rfl)) (by simp);have y2 : ∀ i : Fam (Mod [] w5), i.w.cell? ⟨w.heap.size, 2, none⟩ = some (.int .u64 (e.time : Nat)) := q09 ((H5.out.e.cell 2).trans (by rw [← HEc.out]; rfl)) (by simp);have y3 : ∀ i : Fam (Mod [] w5), i.w.cell? ⟨w.heap.size, 3, none⟩ = some (.int .u64 (e.num : Nat)) := q09 ((H5.out.e.cell 3).trans (by rw [← HEc.out]; rfl)) (by simp);have y4 : ∀ i : Fam (Mod [] w5), i.w.cell? ⟨w.heap.size, 4, none⟩ = some (.int .u64 (e.many : Nat)) := q09 ((H5.out.e.cell 4).trans (by rw [← HEc.out]; rfl)) (by simp);have y5 : ∀ i : Fam (Mod [] w5), i.w.cell? ⟨w.heap.size, 5, none⟩ = some (.string e.text) := q09 ((H5.out.e.cell 5).trans (by rw [← HEc.out]; rfl)) (by simp);have yv : ∀ i : Fam (Mod [] w5), i.w.cell? ⟨vb, 3, none⟩ = some (.slice none 0 0) := q09 (HS5.out.v.cell 3) (by simp);refine q78 (Mod [] w5) [25] [([0, 1, 2, 3, 4, 6, 7, 9, 10, 11, 13, 14, 16, 17, 19, 20], 5), ([], 8), ([], 12), ([], 15), ([], 18), ([], 21), ([], 22), ([], 23), ([24], 25)] [] (by kernel_rfl) (by kernel_rfl) (fun _ _ _ _ _ h => h) ((Mod.refl [] w5).drew) ?_;show wpQuiet _ _ _ _ _ _;simp only [gd];(repeat (go_big_quiet_step (fail)));refine wpQuiet_nil ?_;clear y0 y1 y2 y3 y4 y5 yv q1 q2;have HV := q00 ((Mod.refl [] w5).drew);iterate 6
      go_wp2_with fail
      first | refine (j20 _ _ (by assumption)).mono ?_ | refine (qx2 _ _).mono ?_
      rintro e0 v9 ⟨rfl, m9⟩
      have HV := q00 (HV.out.trans m9 (by simp))
      clear m9
      go_wp2_with fail
      refine Ph.on (fun _ => HV.out) ?_
      show wpQuiet _ _ _ _ _ _
      simp only [gd]
      refine wpQuiet_nil ?_
    go_wp2_with (refine q24 rfl 40 43 6 _ rfl _ rfl Tryz.underlying40 jd3 5 qw0 (by decide) (by decide) [(0, .agg (jnN kn).cells), (1, .agg (jnN e.time).cells), (2, .agg (jnN sn).cells), (3, .agg (jnN e.num).cells), (4, .agg (jnN e.many).cells), (5, .agg (jtN e.text).cells)] rfl (q26 [jnN kn, jnN e.time, jnN sn, jnN e.num, jnN e.many, jtN e.text]).toArray (by kernel_rfl) ?_; intro v8 m8 b8 s8; have HV8 := q00 (HV.out.trans m8 (by simp)); have HZ8 := q00 b8; have HZs := q00 s8; clear m8 b8 s8);obtain ⟨zl, hzl⟩ : ∃ g, v9.heap.size = g := ⟨_, rfl⟩;rw [hzl] at HZ8 ⊢;clear hzl;obtain ⟨A6, c6, X6, hrun, hv6, hms, hmod, hm6⟩ := (HS5.out.mod HV8.out (by simp)).vals (Nat.lt_succ_self vb) (by have := HS5.out.v.lt; have := HV8.out.size; omega) (Nat.zero_le _) [jnN kn, jnN e.time, jnN sn, jnN e.num, jnN e.many, jtN e.text] (by simp) (qx9 (by intro x hx; simp only [List.mem_cons, List.not_mem_nil, or_false] at hx; rcases hx with rfl | rfl | rfl | rfl | rfl | rfl <;> exact ⟨_, _, _, rfl⟩)) zl HZ8.out;replace hrun : (Builtin.append_ #[40, 40] 40 #[.slice none 0 0, .slice (some ⟨zl, 0, none⟩) 6 6]).run Tryz.prog v8 = .ok (.slice A6 6 c6) X6 := hrun;replace hms : MS (X6.setCell ⟨vb, 3, none⟩ (.slice A6 6 c6)) (vb + 1) vb 6 A6 c6 [jnN kn, jnN e.time, jnN sn, jnN e.num, jnN e.many, jtN e.text] B5 d5 ekeys := hms;have HM6 := q00 (hmod w2 (HM5.out.trans HV8.out (by simp)) (Nat.le_of_eq Hvb.out));have HSX := q00 (HV8.out.trans hm6 (fun y hy => by cases hy));obtain ⟨w6, hw6⟩ : ∃ x, X6.setCell ⟨vb, 3, none⟩ (.slice A6 6 c6) = x := ⟨_, rfl⟩;replace HM6 : Hid (Mod [] w2 w6) := q00 (by rw [← hw6]; exact HM6.out);rw [hw6] at hms;have HS6 := q00 hms;have HRun := q00 hrun;have r3 : X6.cell? ⟨vb, 3, none⟩ = some (.slice none 0 0) := hv6.cell 3;have f3 : X6.frozen? ⟨vb, 3, none⟩ = false := hv6.frozen 3;have l3 := hv6.lt;clear hrun hv6 hms hmod hm6;refine Ph.on (fun _ => HV8.out) ?_;show wpQuiet _ _ _ _ _ _;simp only [gd];refine wpQuiet_nil ?_;go_wp2_with (at_builtin; refine Lib.wpList_append_run _ rfl (.tmp 21) (.tmp 42) 40 40 rfl (.slice none 0 0) (.slice (some ⟨zl, 0, none⟩) 6 6) rfl rfl (.slice A6 6 c6) X6 HRun.out ?_);refine Ph.on (fun _ => HSX.out) ?_;show wpQuiet _ _ _ _ _ _;simp only [gd];(repeat (go_big_quiet_step (fail)));refine wpQuiet_nil ?_;go_wp2_with fail;refine Ph.on (fun h => by cases h) ?_;show wpQuiet _ _ _ _ _ _;simp only [gd];refine wpQuiet_nil ?_;clear r3 f3 l3 HRun HSX HV8 HZ8 HZs HV;have H6 := q00 (H2.out.new HM6.out);have XF := q00 (j79 H6.out.e HEc.out);have hnn := qx1 w6 A e.f.list.length c e.f (HRgw.out w6 H6.out.m);obtain ⟨bare, hbare⟩ : ∃ b, qc6 e.f fr0 = b := ⟨_, rfl⟩;rw [hbare] at hnn;have HBa := q00 hbare;have HNn := q00 hnn;clear hnn hbare HN3 HB3 HS3 HM5 HS5 H5;go_wp2_with (refine wpList_load_mid rfl 36 _ rfl w.heap.size 6 rfl (fcs A e.f.list.length c e.f).toList _ XF.out rfl rfl (by kernel_rfl) ?_);refine HNn.out.mono ?_;rintro e0 w7 ⟨rfl, m7⟩;have H7 := q00 (H6.out.new m7);have HS7 := q00 (HS6.out.mod m7 (by simp));have HM7 := q00 (HM6.out.trans m7 (by simp));clear m7 H6 HS6 XF HNn;cases bare with
    | true =>
      go_wp2_with (first | (refine wpList_load_mid rfl 43 _ rfl vb 0 rfl (JN.mk 6 0 ⟨#[]⟩ A6 c6 [jnN kn, jnN e.time, jnN sn, jnN e.num, jnN e.many, jtN e.text] B5 d5 ekeys).cells.toList _ HS7.out.v.range rfl rfl (by kernel_rfl) ?_) | (refine q01 rfl 43 _ _ rfl rfl (w.heap.size + 1) 43 zcs (JN.mk 6 0 ⟨#[]⟩ A6 c6 [jnN kn, jnN e.time, jnN sn, jnN e.num, jnN e.many, jtN e.text] B5 d5 ekeys).cells H7.out.r rfl rfl (by kernel_rfl) rfl (by kernel_rfl) ?_; intro w9 m9 b9 s9; have HM9 := q00 m9; have HB9 := q00 b9; clear m9 b9 s9));refine bodyPost_ret (q02 rfl _ _ (w.heap.size + 1) 43 (JN.mk 6 0 ⟨#[]⟩ A6 c6 [jnN kn, jnN e.time, jnN sn, jnN e.num, jnN e.many, jtN e.text] B5 d5 ekeys).cells _ rfl HB9.out Tryz.underlying43 rfl (by kernel_rfl)) rfl ?_;obtain ⟨j1, j2⟩ := HS7.out.jin (by simp [q99]) (by simp [q99, ekeys]);refine ⟨(JN.mk 6 0 ⟨#[]⟩ A6 c6 [jnN kn, jnN e.time, jnN sn, jnN e.num, jnN e.many, jtN e.text] B5 d5 ekeys), ?_, ?_, JIn.mod HM9.out (fun g hg => by have := (j2 g hg).1; have := HVb.out; simp; omega) j1, H7.out.m.trans HM9.out (by intro x hx; right; simp at hx; omega)⟩
      · rw [HMv.out]; rfl
      · rw [HMv.out, if_pos rfl, zx7, ← HKn.out, ← HSn.out];unfold q37;rw [show e.bare = true from HBa.out];rfl
    | false =>
      have HFo := q00 (qu1 (qr9 HMv.out HBa.out));go_upto_region 9 with (refine q06 rfl 43 _ _ rfl rfl zcs (JN.mk 6 0 ⟨#[]⟩ none 0 [] none 0 []).cells rfl rfl (by kernel_rfl) rfl (by kernel_rfl) ?_; intro w8 m8 b8 s8; have HN8 := q00 m8; have HB8 := q00 b8; clear m8 b8 s8);obtain ⟨fb, hfb⟩ : ∃ g, w7.heap.size = g := ⟨_, rfl⟩;have Hfb := q00 hfb;rw [hfb] at HB8 ⊢;clear hfb;have HS8 := q00 (MS.fresh HB8.out (fb + 1));have A3 := (Mod.refl [] w8).alloc (.cells (fkeys.map Value.string).toArray 9);obtain ⟨B9, d9, X9, hrun, hv6, hms, hmod, hm6⟩ := (HS8.out.mod A3 (by simp)).keys (Nat.lt_succ_self fb) (by have := HB8.out.lt; simp; omega) (Nat.zero_le _) fkeys (by decide) w8.heap.size (Blk.new w8 9 (fkeys.map Value.string).toArray);replace hrun : (Builtin.append_ #[41, 41] 41 #[.slice none 0 0, .slice (some ⟨w8.heap.size, 0, none⟩) 8 8]).run Tryz.prog (w8.alloc (.cells (fkeys.map Value.string).toArray 9)) = .ok (.slice B9 8 d9) X9 := hrun;replace hms : MS (X9.setCell ⟨fb, 4, none⟩ (.slice B9 8 d9)) (fb + 1) fb 6 none 0 [] B9 d9 fkeys := hms;have HM9 := q00 (hmod w7 (HN8.out.trans A3 (by simp)) (Nat.le_of_eq Hfb.out));obtain ⟨w9, hw9⟩ : ∃ x, X9.setCell ⟨fb, 4, none⟩ (.slice B9 8 d9) = x := ⟨_, rfl⟩;replace HM9 : Hid (Mod [] w7 w9) := q00 (by rw [← hw9]; exact HM9.out);rw [hw9] at hms;have HS9 := q00 hms;have HRun := q00 hrun;have q4 : w8.cell? ⟨fb, 4, none⟩ = some (.slice none 0 0) := HS8.out.v.cell 4;have r4 : X9.cell? ⟨fb, 4, none⟩ = some (.slice none 0 0) := hv6.cell 4;have f4 : X9.frozen? ⟨fb, 4, none⟩ = false := hv6.frozen 4;have l4 := hv6.lt;have l5 := HB8.out.lt;clear A3 hrun hv6 hms hmod hm6;go_upto_region 10 with (at_builtin; refine Lib.wpList_append_run _ rfl (.tmp 51) (.tmp 52) 41 41 rfl (.slice none 0 0) (.slice (some ⟨w8.heap.size, 0, none⟩) 8 8) rfl rfl (.slice B9 8 d9) X9 HRun.out ?_);clear q4 r4 f4 l4 l5 hw9 HRun;obtain ⟨fi, hfi⟩ : ∃ b, e.f.fin = b := ⟨_, rfl⟩;have HFi := q00 hfi;go_upto_region 11 with (refine q06 rfl 43 _ _ rfl rfl zcs (JN.mk 1 0 ⟨#[]⟩ none 0 [] none 0 []).cells rfl rfl (by kernel_rfl) rfl (by kernel_rfl) ?_; intro w10 m10 b10 s10; have HN10 := q00 m10; have HB10 := q00 b10; clear m10 b10 s10);obtain ⟨gb, hgb⟩ : ∃ g, w9.heap.size = g := ⟨_, rfl⟩;have Hgb := q00 hgb;rw [hgb] at HB10 ⊢;clear hgb;have HS10 := q00 (MS.fresh HB10.out (gb + 1));have H10 := q00 (H7.out.new (HM9.out.trans HN10.out (by simp)));have c10 : w10.cell? ⟨w.heap.size, 10, none⟩ = some (.bool fi) := (H10.out.e.cell 10).trans (by rw [← HEc.out, ← hfi]; rfl);have g0 : w10.cell? ⟨gb, 0, none⟩ = some (.int .i64 1) := HB10.out.cell 0;have g0f : w10.frozen? ⟨gb, 0, none⟩ = false := HB10.out.frozen 0;have g0l := HB10.out.lt;clear hfi HS10;go_upto_if 58 with fail;go_cut [] (fun wx => Hid (Mod [] w9 wx) ∧ Hid (Blk wx gb 43 (jbN fi).cells))
      case first =>
        have HGs := q00 ((HN10.out).setCell (p := ⟨gb, 0, none⟩) (.inr (Nat.le_of_eq Hgb.out)) (.int .i64 2));have HGb : Hid (Blk (w10.setCell ⟨gb, 0, none⟩ (.int .i64 2)) gb 43 (jbN true).cells) := q00 (HB10.out.set_ 0 (.int .i64 2));cases fi with
        | false =>go_wp2_with fail;go_meet;exact ⟨HN10, HB10⟩
        | true =>go_wp2_with fail;go_meet;exact ⟨HGs, HGb⟩
      case rest =>
        obtain ⟨hmc, hgc⟩ := hcut;clear c10 g0 g0f g0l HN10 HB10 H10;go_upto_region 14 with (refine q06 rfl 43 _ _ rfl rfl zcs (JN.mk 5 0 ⟨#[]⟩ none 0 [] none 0 []).cells rfl rfl (by kernel_rfl) rfl (by kernel_rfl) ?_; intro w12 m12 b12 s12; have HN12 := q00 m12; have HB12 := q00 b12; clear m12 b12 s12);obtain ⟨lb, hlb⟩ : ∃ g, wc.heap.size = g := ⟨_, rfl⟩;have Hlb := q00 hlb;rw [hlb] at HB12 ⊢;clear hlb;have HS12 := q00 (MS.fresh HB12.out (lb + 1));obtain ⟨n, hn⟩ : ∃ n, e.f.list.length = n := ⟨_, rfl⟩;have HN := q00 hn;have hn64 : n ≤ 64 := (by rw [← hn]; exact HFo.out.len);have HRn : Hid (∀ w', Mod [] w w' → Rngs w' A n e.f.list) := q00 (fun w' m => hn ▸ HRgw.out w' m);have HC := q00 (H7.out.new (HM9.out.trans hmc.out (by simp)));clear hn;go_wp2_with fail;go_loopw [8] (fun iv wr => ∃ (j c' : Nat) (A' : Option Addr) (l : List JN), j ≤ n ∧ l.length = j ∧ iv = .int .i64 (j : Int) ∧ Hid (JN.vs l = (e.f.list.take j).map jr) ∧ Hid (Mod [] wc wr) ∧ Hid (MS wr (lb + 1) lb 5 A' c' l none 0 [])) (fun iv _ => n - (intOf iv).toNat)
        case atStart => exact ⟨0, 0, none, [], by omega, rfl, rfl, q00 rfl, HN12, HS12⟩
        case round =>
          obtain ⟨j, c', A', l, hjn, hlj, rfl, hvs, hmr, hsr⟩ := hrel;have HR := q00 (HC.out.new hmr.out);have c13 : wr.cell? ⟨w.heap.size, 13, none⟩ = some (.slice A n c) := (HR.out.e.cell 13).trans (by rw [← HEc.out, ← HN.out]; rfl);have HLj := q00 hlj;clear hlj;by_cases h2 : j < n
          · obtain ⟨g, o, hjl, hA, hgl, d0, d1⟩ := (HRn.out wr HR.out.m).at_ h2;subst hA;have hii : (j : Int) < (n : Int) := (by omega);have a1 : IntKind.i64.wrap ((j : Int) + 1) = (j : Int) + 1 := IntWalk.i64_in _ (by omega);obtain ⟨lo, hlo⟩ : ∃ x, e.f.list[j].1 = x := ⟨_, rfl⟩;obtain ⟨hi, hhi⟩ : ∃ x, e.f.list[j].2 = x := ⟨_, rfl⟩;have HE := q00 (show e.f.list[j]? = some (lo, hi) by rw [List.getElem?_eq_getElem hjl, ← hlo, ← hhi]);have HD0 := q00 d0;have HD1 := q00 d1;rw [hlo] at HD0;rw [hhi] at HD1;have b6 : lo < 4611686018427387904 := (HFo.out.list (lo, hi) (List.mem_of_getElem? HE.out)).1;have b7 : hi < 4611686018427387904 := (HFo.out.list (lo, hi) (List.mem_of_getElem? HE.out)).2;clear hlo hhi d0 d1 hjl;go_upto_region 18 with (refine q06 rfl 43 _ _ rfl rfl zcs (JN.mk 5 0 ⟨#[]⟩ none 0 [] none 0 []).cells rfl rfl (by kernel_rfl) rfl (by kernel_rfl) ?_; intro w13 m13 b13 s13; have HN13 := q00 m13; have HB13 := q00 b13; clear m13 b13 s13);obtain ⟨xb, hxb⟩ : ∃ g, wr.heap.size = g := ⟨_, rfl⟩;have Hxb := q00 hxb;rw [hxb] at HB13 ⊢;clear hxb;have HS13 := q00 (MS.fresh HB13.out (xb + 1));have yx : ∀ i : Fam (Mod [] w13), i.w.cell? ⟨xb, 3, none⟩ = some (.slice none 0 0) := q09 (HB13.out.cell 3) (by simp);have yl : ∀ i : Fam (Mod [] w13), i.w.cell? ⟨w.heap.size, 13, none⟩ = some (.slice (some ⟨g, o, none⟩) n c) := q09 ((HN13.out.cell (World.block_lt_of_cell? _ _ c13) (by simp)).trans c13) (by simp);have yd : ∀ i : Fam (Mod [] w13), i.w.cell? ⟨g, o + j * 2, none⟩ = some (.int .u64 (lo : Nat)) := q09 ((HN13.out.cell (World.block_lt_of_cell? _ _ HD0.out) (by simp)).trans HD0.out) (by simp);have ye : ∀ i : Fam (Mod [] w13), i.w.cell? ⟨g, o + j * 2 + 1, none⟩ = some (.int .u64 (hi : Nat)) := q09 ((HN13.out.cell (World.block_lt_of_cell? _ _ HD1.out) (by simp)).trans HD1.out) (by simp);have HM13 := HN13;refine q78 (Mod [] w13) [21] [([0, 1, 2, 3, 4, 5, 6, 7, 8, 10, 11, 12, 13, 14, 15, 16], 9), ([], 17), ([], 18), ([], 19), ([20], 21)] [] (by kernel_rfl) (by kernel_rfl) (fun _ _ _ _ _ h => h) ((Mod.refl [] w13).drew) ?_;show wpQuiet _ _ _ _ _ _;simp only [gd];(repeat (go_big_quiet_step (fail)));refine wpQuiet_nil ?_;clear yx yl yd ye;have HV := q00 ((Mod.refl [] w13).drew);iterate 2
              go_wp2_with fail
              first | refine (j20 _ _ (by assumption)).mono ?_ | refine (qx2 _ _).mono ?_
              rintro e0 v9 ⟨rfl, m9⟩
              have HV := q00 (HV.out.trans m9 (by simp))
              clear m9
              go_wp2_with fail
              refine Ph.on (fun _ => HV.out) ?_
              show wpQuiet _ _ _ _ _ _
              simp only [gd]
              refine wpQuiet_nil ?_
            go_wp2_with (refine q24 rfl 40 43 2 _ rfl _ rfl Tryz.underlying40 jd3 5 qw0 (by decide) (by decide) [(0, .agg (jnN lo).cells), (1, .agg (jnN hi).cells)] rfl (q26 [jnN lo, jnN hi]).toArray (by kernel_rfl) ?_; intro v8 m8 b8 s8; have HV8 := q00 (HV.out.trans m8 (by simp)); have HZ8 := q00 b8; have HZs := q00 s8; clear m8 b8 s8);obtain ⟨zl, hzl⟩ : ∃ g, v9.heap.size = g := ⟨_, rfl⟩;rw [hzl] at HZ8 ⊢;clear hzl;obtain ⟨A14, c14, X14, hrun, hv6, hms, hmod, hm6⟩ := (HS13.out.mod HV8.out (by simp)).vals (Nat.lt_succ_self xb) (by have := HS13.out.v.lt; have := HV8.out.size; omega) (Nat.zero_le _) [jnN lo, jnN hi] (by simp) (qx9 (by intro x hx; simp only [List.mem_cons, List.not_mem_nil, or_false] at hx; rcases hx with rfl | rfl <;> exact ⟨_, _, _, rfl⟩)) zl HZ8.out;replace hrun : (Builtin.append_ #[40, 40] 40 #[.slice none 0 0, .slice (some ⟨zl, 0, none⟩) 2 2]).run Tryz.prog v8 = .ok (.slice A14 2 c14) X14 := hrun;replace hms : MS (X14.setCell ⟨xb, 3, none⟩ (.slice A14 2 c14)) (xb + 1) xb 5 A14 c14 [jnN lo, jnN hi] none 0 [] := hms;have HM14 := q00 (hmod wr (HM13.out.trans HV8.out (by simp)) (Nat.le_of_eq Hxb.out));have HSX := q00 (HV8.out.trans hm6 (fun y hy => by cases hy));obtain ⟨w14, hw14⟩ : ∃ x, X14.setCell ⟨xb, 3, none⟩ (.slice A14 2 c14) = x := ⟨_, rfl⟩;replace HM14 : Hid (Mod [] wr w14) := q00 (by rw [← hw14]; exact HM14.out);rw [hw14] at hms;have HS14 := q00 hms;have HRun := q00 hrun;have r3 : X14.cell? ⟨xb, 3, none⟩ = some (.slice none 0 0) := hv6.cell 3;have f3 : X14.frozen? ⟨xb, 3, none⟩ = false := hv6.frozen 3;have l3 := hv6.lt;clear hrun hv6 hms hmod hm6;refine Ph.on (fun _ => HV8.out) ?_;show wpQuiet _ _ _ _ _ _;simp only [gd];refine wpQuiet_nil ?_;go_wp2_with (at_builtin; refine Lib.wpList_append_run _ rfl (.tmp 71) (.tmp 88) 40 40 rfl (.slice none 0 0) (.slice (some ⟨zl, 0, none⟩) 2 2) rfl rfl (.slice A14 2 c14) X14 HRun.out ?_);refine Ph.on (fun _ => HSX.out) ?_;show wpQuiet _ _ _ _ _ _;simp only [gd];(repeat (go_big_quiet_step (fail)));refine wpQuiet_nil ?_;go_wp2_with fail;refine Ph.on (fun h => by cases h) ?_;show wpQuiet _ _ _ _ _ _;simp only [gd];refine wpQuiet_nil ?_;clear r3 f3 l3 HRun HSX HV8 HZ8 HZs HV;have HSl := q00 (hsr.out.mod HM14.out (by simp));have p3 : w14.cell? ⟨lb, 3, none⟩ = some (.slice A' j c') := (by rw [← HLj.out]; exact HSl.out.v.cell 3);have pl := HSl.out.v.lt;have HXx := q00 (HS14.out.jin (by simp [q99]) (by simp [q99]));have HLx : Hid (∀ k, (Value.slice A' l.length c').ownBlock = some k → k < xb) := q00 (fun k hk => by rw [← Hxb.out]; exact (hsr.out.lo.lt k hk).2);have HLb : Hid (lb < xb) := q00 (by rw [← Hxb.out]; exact hsr.out.v.lt);clear c13 HN13 HB13 HS13 HM13 b6 b7 HD0 HD1
            go_wp2_with (first
              | (refine wpList_load_mid rfl 43 _ rfl xb 0 rfl (JN.mk 5 0 ⟨#[]⟩ A14 c14 [jnN lo, jnN hi] none 0 []).cells.toList _ HS14.out.v.range rfl rfl (by kernel_rfl) ?_)
              | (refine q24 rfl 40 43 1 _ rfl _ rfl Tryz.underlying40 jd3 5 qw0 (by decide) (by decide) [(0, .agg (JN.mk 5 0 ⟨#[]⟩ A14 c14 [jnN lo, jnN hi] none 0 []).cells)] rfl (q26 [(JN.mk 5 0 ⟨#[]⟩ A14 c14 [jnN lo, jnN hi] none 0 [])]).toArray (by kernel_rfl) ?_
                 intro v8 m8 b8 s8
                 obtain ⟨zl, hzl⟩ : ∃ g, w14.heap.size = g := ⟨_, rfl⟩
                 rw [hzl] at b8 ⊢
                 obtain ⟨A15, c15, X15, hrun, hv6, hms, hmod, hm6⟩ := (HSl.out.mod m8 (by simp)).vals (Nat.lt_succ_self lb) (by have := HSl.out.v.lt; have := m8.size; omega) (by rw [HLj.out]; omega) [(JN.mk 5 0 ⟨#[]⟩ A14 c14 [jnN lo, jnN hi] none 0 [])] (by simp) (by
                   intro x hx
                   rw [List.mem_singleton] at hx
                   subst hx
                   refine ⟨HXx.out.1.new m8, fun g hg => ?_⟩
                   have h1 := HXx.out.2 g hg
                   have h2 := HLb.out
                   exact ⟨by omega, Nat.lt_of_lt_of_le h1.2 m8.size, fun h => by have := HLx.out g h; omega, fun h => by cases h⟩) zl b8
                 rw [HLj.out] at hrun hms hmod
                 replace hrun : (Builtin.append_ #[40, 40] 40 #[.slice A' j c', .slice (some ⟨zl, 0, none⟩) 1 1]).run Tryz.prog v8 = .ok (.slice A15 (j + 1) c15) X15 := hrun
                 obtain ⟨w15, hw15⟩ : ∃ x, X15.setCell ⟨lb, 3, none⟩ (.slice A15 (j + 1) c15) = x := ⟨_, rfl⟩
                 have HM15 := q00 (hmod wc (hmr.out.trans (HM14.out.trans m8 (by simp)) (by simp)) (Nat.le_of_eq Hlb.out))
                 replace HM15 : Hid (Mod [] wc w15) := q00 (by rw [← hw15]; exact HM15.out)
                 replace hms : MS (X15.setCell ⟨lb, 3, none⟩ (.slice A15 (j + 1) c15)) (lb + 1) lb 5 A15 c15 (l ++ [(JN.mk 5 0 ⟨#[]⟩ A14 c14 [jnN lo, jnN hi] none 0 [])]) none 0 [] := hms
                 rw [hw15] at hms
                 have HS15 := q00 hms
                 have HRun := q00 hrun
                 have r3 : X15.cell? ⟨lb, 3, none⟩ = some (.slice A' j c') := by rw [← HLj.out]; exact hv6.cell 3
                 have f3 : X15.frozen? ⟨lb, 3, none⟩ = false := hv6.frozen 3
                 have l3 := hv6.lt
                 have p3 : v8.cell? ⟨lb, 3, none⟩ = some (.slice A' j c') := (m8.cell pl (by simp)).trans p3
                 clear hrun hv6 hms hmod hm6 m8 b8 s8 hzl)
              | (at_builtin; refine Lib.wpList_append_run _ rfl (.tmp 92) (.tmp 94) 40 40 rfl (.slice A' j c') (.slice (some ⟨zl, 0, none⟩) 1 1) rfl rfl (.slice A15 (j + 1) c15) X15 HRun.out ?_))
            refine ⟨?rel, ?measure⟩
            case rel => exact ⟨j + 1, c15, A15, l ++ [(JN.mk 5 0 ⟨#[]⟩ A14 c14 [jnN lo, jnN hi] none 0 [])], by omega, by rw [List.length_append, HLj.out]; rfl, by go_num, q00 (by rw [JN.vs_app, hvs.out, qv9 jr HE.out]; rfl), HM15, HS15⟩
            case measure => simp [intOf]; omega
          · have hii : decide ((j : Int) < (n : Int)) = false := decide_eq_false (by omega);have hiin : decide (j < n) = false := decide_eq_false (by omega);have HvN : Hid (JN.vs l = e.f.list.map jr) := q00 (by rw [hvs.out, List.take_of_length_le (by have := HN.out; omega)]);clear h2;go_upto_region 20 with fail;have HSf := q00 (HS9.out.mod (hmc.out.trans hmr.out (by simp)) (by simp));have HMr := q00 (HM9.out.trans (hmc.out.trans hmr.out (by simp)) (by simp));have HGr := q00 (hmr.out.blk hgc.out (by simp));have HRg := q00 (qc HGr.out (Mod.refl [] wr) HGr.out.lt (by simp));have HRl := q00 (qc hsr.out.v (Mod.refl [] wr) hsr.out.v.lt (by simp));have b6 : e.f.kind < 4611686018427387904 := by have := HFo.out.kind; omega
            have b7 : e.f.a < 4611686018427387904 := HFo.out.a;have b8 : e.f.b < 4611686018427387904 := HFo.out.b;have b9 : e.f.c < 4611686018427387904 := HFo.out.c
            have HIn : Hid (∀ v8, Mod [] wr v8 → ∀ x ∈ [jnN e.f.kind, jnN e.f.a, jnN e.f.b, jnN e.f.c, jbN fi, jtN e.f.data, jtN e.f.more, JN.mk 5 0 ⟨#[]⟩ A' c' l none 0 []], JIn v8 x ∧ ∀ g ∈ q41 x, fb + 1 ≤ g ∧ g < v8.heap.size ∧ (Value.slice none 0 0).ownBlock ≠ some g ∧ (Value.slice B9 8 d9).ownBlock ≠ some g) := q00 (fun v8 m x hx => by
              have hpl := qx9 (w := v8) (base := fb + 1) (P := fun g => (Value.slice none 0 0).ownBlock ≠ some g) (Q := fun g => (Value.slice B9 8 d9).ownBlock ≠ some g) (l := [jnN e.f.kind, jnN e.f.a, jnN e.f.b, jnN e.f.c, jbN fi, jtN e.f.data, jtN e.f.more]) (by intro x hx; simp only [List.mem_cons, List.not_mem_nil, or_false] at hx; rcases hx with rfl | rfl | rfl | rfl | rfl | rfl | rfl <;> exact ⟨_, _, _, rfl⟩)
              simp only [List.mem_cons, List.not_mem_nil, or_false] at hx hpl
              by_cases hL : x = JN.mk 5 0 ⟨#[]⟩ A' c' l none 0 []
              · subst hL
                obtain ⟨j1, j2⟩ := hsr.out.jin (by rw [HLj.out]; unfold q99; omega) (by simp [q99])
                refine ⟨j1.new m, fun g hg => ?_⟩
                have h1 := j2 g hg
                have h2 := hgc.out.lt
                have h3 := Hlb.out
                have h4 := HS9.out.v.lt
                have h5 := hmc.out.size
                exact ⟨by omega, Nat.lt_of_lt_of_le h1.2 m.size, fun h => (by cases h), fun h => by have := (HS9.out.ko.lt g h).2; omega⟩
              · exact hpl x (by rcases hx with h | h | h | h | h | h | h | h <;> first | exact absurd h hL | simp [h]))
            have y6 : ∀ i : Fam (Mod [] wr), i.w.cell? ⟨w.heap.size, 6, none⟩ = some (.int .u64 (e.f.kind : Nat)) := q09 ((HR.out.e.cell 6).trans (by rw [← HEc.out]; rfl)) (by simp);have y7 : ∀ i : Fam (Mod [] wr), i.w.cell? ⟨w.heap.size, 7, none⟩ = some (.int .u64 (e.f.a : Nat)) := q09 ((HR.out.e.cell 7).trans (by rw [← HEc.out]; rfl)) (by simp);have y8 : ∀ i : Fam (Mod [] wr), i.w.cell? ⟨w.heap.size, 8, none⟩ = some (.int .u64 (e.f.b : Nat)) := q09 ((HR.out.e.cell 8).trans (by rw [← HEc.out]; rfl)) (by simp);have y9 : ∀ i : Fam (Mod [] wr), i.w.cell? ⟨w.heap.size, 9, none⟩ = some (.int .u64 (e.f.c : Nat)) := q09 ((HR.out.e.cell 9).trans (by rw [← HEc.out]; rfl)) (by simp);have y11 : ∀ i : Fam (Mod [] wr), i.w.cell? ⟨w.heap.size, 11, none⟩ = some (.string e.f.data) := q09 ((HR.out.e.cell 11).trans (by rw [← HEc.out]; rfl)) (by simp);have y12 : ∀ i : Fam (Mod [] wr), i.w.cell? ⟨w.heap.size, 12, none⟩ = some (.string e.f.more) := q09 ((HR.out.e.cell 12).trans (by rw [← HEc.out]; rfl)) (by simp);have yv : ∀ i : Fam (Mod [] wr), i.w.cell? ⟨fb, 3, none⟩ = some (.slice none 0 0) := q09 (HSf.out.v.cell 3) (by simp);refine q78 (Mod [] wr) [31] [([0, 1, 2, 3, 4, 6, 7, 8, 10, 11, 12, 14, 15, 16, 18, 19, 20, 21, 23, 24, 25, 27], 5), ([], 9), ([], 13), ([], 17), ([], 22), ([], 26), ([], 28), ([], 29), ([30], 31)] [] (by kernel_rfl) (by kernel_rfl) (fun _ _ _ _ _ h => h) ((Mod.refl [] wr).drew) ?_;show wpQuiet _ _ _ _ _ _;simp only [gd];(repeat (first | (refine q14 rfl 43 _ rfl gb 0 rfl (jbN fi).cells.toList _ HRg.out rfl rfl (by kernel_rfl) ?_; simp only [pu]) | (refine q14 rfl 43 _ rfl lb 0 rfl (JN.mk 5 0 ⟨#[]⟩ A' c' l none 0 []).cells.toList _ HRl.out rfl rfl (by kernel_rfl) ?_; simp only [pu]) | go_big_quiet_step (fail)));refine wpQuiet_nil ?_;clear y6 y7 y8 y9 y11 y12 yv;have HV := q00 ((Mod.refl [] wr).drew);iterate 6
              go_wp2_with fail
              first | refine (j20 _ _ (by assumption)).mono ?_ | refine (qx2 _ _).mono ?_
              rintro e0 v9 ⟨rfl, m9⟩
              have HV := q00 (HV.out.trans m9 (by simp))
              clear m9
              go_wp2_with fail
              refine Ph.on (fun _ => HV.out) ?_
              show wpQuiet _ _ _ _ _ _
              simp only [gd]
              refine wpQuiet_nil ?_
            go_wp2_with (refine q24 rfl 40 43 8 _ rfl _ rfl Tryz.underlying40 jd3 5 qw0 (by decide) (by decide) [(0, .agg (jnN e.f.kind).cells), (1, .agg (jnN e.f.a).cells), (2, .agg (jnN e.f.b).cells), (3, .agg (jnN e.f.c).cells), (4, .agg (jbN fi).cells), (5, .agg (jtN e.f.data).cells), (6, .agg (jtN e.f.more).cells), (7, .agg (JN.mk 5 0 ⟨#[]⟩ A' c' l none 0 []).cells)] rfl (q26 [jnN e.f.kind, jnN e.f.a, jnN e.f.b, jnN e.f.c, jbN fi, jtN e.f.data, jtN e.f.more, JN.mk 5 0 ⟨#[]⟩ A' c' l none 0 []]).toArray (by kernel_rfl) ?_; intro v8 m8 b8 s8; have HV8 := q00 (HV.out.trans m8 (by simp)); have HZ8 := q00 b8; have HZs := q00 s8; clear m8 b8 s8);obtain ⟨zl, hzl⟩ : ∃ g, v9.heap.size = g := ⟨_, rfl⟩;rw [hzl] at HZ8 ⊢;clear hzl;obtain ⟨A20, c20, X20, hrun, hv6, hms, hmod, hm6⟩ := (HSf.out.mod HV8.out (by simp)).vals (Nat.lt_succ_self fb) (by have := HSf.out.v.lt; have := HV8.out.size; omega) (Nat.zero_le _) [jnN e.f.kind, jnN e.f.a, jnN e.f.b, jnN e.f.c, jbN fi, jtN e.f.data, jtN e.f.more, JN.mk 5 0 ⟨#[]⟩ A' c' l none 0 []] (by simp) (HIn.out _ HV8.out) zl HZ8.out;replace hrun : (Builtin.append_ #[40, 40] 40 #[.slice none 0 0, .slice (some ⟨zl, 0, none⟩) 8 8]).run Tryz.prog v8 = .ok (.slice A20 8 c20) X20 := hrun;replace hms : MS (X20.setCell ⟨fb, 3, none⟩ (.slice A20 8 c20)) (fb + 1) fb 6 A20 c20 [jnN e.f.kind, jnN e.f.a, jnN e.f.b, jnN e.f.c, jbN fi, jtN e.f.data, jtN e.f.more, JN.mk 5 0 ⟨#[]⟩ A' c' l none 0 []] B9 d9 fkeys := hms;have HM20 := q00 (hmod w7 (HMr.out.trans HV8.out (by simp)) (Nat.le_of_eq Hfb.out));have HSX := q00 (HV8.out.trans hm6 (fun y hy => by cases hy));obtain ⟨w20, hw20⟩ : ∃ x, X20.setCell ⟨fb, 3, none⟩ (.slice A20 8 c20) = x := ⟨_, rfl⟩;replace HM20 : Hid (Mod [] w7 w20) := q00 (by rw [← hw20]; exact HM20.out);rw [hw20] at hms;have HS20 := q00 hms;have HRun := q00 hrun;have r3 : X20.cell? ⟨fb, 3, none⟩ = some (.slice none 0 0) := hv6.cell 3;have f3 : X20.frozen? ⟨fb, 3, none⟩ = false := hv6.frozen 3;have l3 := hv6.lt;clear hrun hv6 hms hmod hm6;refine Ph.on (fun _ => HV8.out) ?_;show wpQuiet _ _ _ _ _ _;simp only [gd];refine wpQuiet_nil ?_;go_wp2_with (at_builtin; refine Lib.wpList_append_run _ rfl (.tmp 98) (.tmp 125) 40 40 rfl (.slice none 0 0) (.slice (some ⟨zl, 0, none⟩) 8 8) rfl rfl (.slice A20 8 c20) X20 HRun.out ?_);refine Ph.on (fun _ => HSX.out) ?_;show wpQuiet _ _ _ _ _ _;simp only [gd];(repeat (go_big_quiet_step (fail)));refine wpQuiet_nil ?_;go_wp2_with fail;refine Ph.on (fun h => by cases h) ?_;show wpQuiet _ _ _ _ _ _;simp only [gd];refine wpQuiet_nil ?_;clear r3 f3 l3 HRun HSX HV8 HZ8 HZs HV;clear HSf HGr HRg HRl HIn HMr b6 b7 b8 b9 hw20 c13 hii hiin;have HSv := q00 (HS7.out.mod HM20.out (by simp));have A3 := (Mod.refl [] w20).alloc (.cells ([qc1].map Value.string).toArray 9);obtain ⟨B21, d21, X21, hrun, hv6, hms, hmod, hm6, hown⟩ := (HSv.out.mod A3 (by simp)).keys (Nat.lt_succ_self vb) (by have := HSv.out.v.lt; simp; omega) (by simp [ekeys]) [qc1] (by simp) w20.heap.size (Blk.new w20 9 ([qc1].map Value.string).toArray);replace hrun : (Builtin.append_ #[41, 41] 41 #[.slice B5 6 d5, .slice (some ⟨w20.heap.size, 0, none⟩) 1 1]).run Tryz.prog (w20.alloc (.cells ([qc1].map Value.string).toArray 9)) = .ok (.slice B21 7 d21) X21 := hrun;replace hms : MS (X21.setCell ⟨vb, 4, none⟩ (.slice B21 7 d21)) (vb + 1) vb 6 A6 c6 [jnN kn, jnN e.time, jnN sn, jnN e.num, jnN e.many, jtN e.text] B21 d21 (ekeys ++ [qc1]) := hms;have hm21 := hmod w2 ((HM7.out.trans HM20.out (by simp)).trans A3 (by simp)) (Nat.le_of_eq Hvb.out);have ht21 : Mod ((Value.slice B5 6 d5).ownBlock.toList ++ [vb]) (w20.alloc (.cells ([qc1].map Value.string).toArray 9)) (X21.setCell ⟨vb, 4, none⟩ (.slice B21 7 d21)) := (Mod.mono hm6 (fun y hy => .inl (by simp only [List.mem_append]; exact .inl hy))).setCell (p := ⟨vb, 4, none⟩) (.inl (by simp)) _
            have hsf := (HS20.out.mod A3 (by simp)).mod ht21 (fun g hg => by
              have h1 := Hfb.out
              have h2 := HS7.out.v.lt
              simp only [List.mem_append, Option.mem_toList, List.mem_singleton] at hg
              rcases hg with hg | hg
              · have := (HS7.out.ko.lt g hg).2; omega
              · omega)
            obtain ⟨w21, hw21⟩ : ∃ x, X21.setCell ⟨vb, 4, none⟩ (.slice B21 7 d21) = x := ⟨_, rfl⟩;replace hm21 : Mod [] w2 w21 := (by rw [← hw21]; exact hm21);rw [hw21] at hms hsf;have HM21 := q00 hm21;have HS21 := q00 hms;have HSf := q00 hsf;have HOw : Hid (∀ k, (Value.slice B21 7 d21).ownBlock = some k → k < fb ∨ w20.heap.size ≤ k) := q00 (fun k hk => (hown k hk).imp (fun h => by rw [← Hfb.out]; exact (HS7.out.ko.lt k h).2) (fun h => by rw [h]; simp));have HFj := q00 (HS20.out.jin (by simp [q99]) (by simp [q99, fkeys]));have HRun := q00 hrun;have q4 : w20.cell? ⟨vb, 4, none⟩ = some (.slice B5 6 d5) := HSv.out.v.cell 4;have r4 : X21.cell? ⟨vb, 4, none⟩ = some (.slice B5 6 d5) := hv6.cell 4;have f4 : X21.frozen? ⟨vb, 4, none⟩ = false := hv6.frozen 4;have l4 := hv6.lt;have l5 := HSv.out.v.lt;clear A3 hrun hv6 hms hmod hm6 hown hm21 ht21 hsf;go_upto_region 22 with (at_builtin; refine Lib.wpList_append_run _ rfl (.tmp 129) (.tmp 130) 41 41 rfl (.slice B5 6 d5) (.slice (some ⟨w20.heap.size, 0, none⟩) 1 1) rfl rfl (.slice B21 7 d21) X21 HRun.out ?_);clear q4 r4 f4 l4 l5 hw21 HRun;have p3 : w21.cell? ⟨vb, 3, none⟩ = some (.slice A6 6 c6) := HS21.out.v.cell 3;have pl := HS21.out.v.lt
            go_upto_region 23 with (first
              | (refine wpList_load_mid rfl 43 _ rfl fb 0 rfl (JN.mk 6 0 ⟨#[]⟩ A20 c20 [jnN e.f.kind, jnN e.f.a, jnN e.f.b, jnN e.f.c, jbN fi, jtN e.f.data, jtN e.f.more, JN.mk 5 0 ⟨#[]⟩ A' c' l none 0 []] B9 d9 fkeys).cells.toList _ HSf.out.v.range rfl rfl (by kernel_rfl) ?_)
              | (refine q24 rfl 40 43 1 _ rfl _ rfl Tryz.underlying40 jd3 5 qw0 (by decide) (by decide) [(0, .agg (JN.mk 6 0 ⟨#[]⟩ A20 c20 [jnN e.f.kind, jnN e.f.a, jnN e.f.b, jnN e.f.c, jbN fi, jtN e.f.data, jtN e.f.more, JN.mk 5 0 ⟨#[]⟩ A' c' l none 0 []] B9 d9 fkeys).cells)] rfl (q26 [(JN.mk 6 0 ⟨#[]⟩ A20 c20 [jnN e.f.kind, jnN e.f.a, jnN e.f.b, jnN e.f.c, jbN fi, jtN e.f.data, jtN e.f.more, JN.mk 5 0 ⟨#[]⟩ A' c' l none 0 []] B9 d9 fkeys)]).toArray (by kernel_rfl) ?_
                 intro v8 m8 b8 s8
                 obtain ⟨zl, hzl⟩ : ∃ g, w21.heap.size = g := ⟨_, rfl⟩
                 rw [hzl] at b8 ⊢
                 obtain ⟨A22, c22, X22, hrun, hv6, hms, hmod, hm6⟩ := (HS21.out.mod m8 (by simp)).vals (Nat.lt_succ_self vb) (by have := HS21.out.v.lt; have := m8.size; omega) (by simp) [(JN.mk 6 0 ⟨#[]⟩ A20 c20 [jnN e.f.kind, jnN e.f.a, jnN e.f.b, jnN e.f.c, jbN fi, jtN e.f.data, jtN e.f.more, JN.mk 5 0 ⟨#[]⟩ A' c' l none 0 []] B9 d9 fkeys)] (by simp) (by
                   intro x hx
                   rw [List.mem_singleton] at hx
                   subst hx
                   obtain ⟨j1, j2⟩ := HSf.out.jin (by simp [q99]) (by simp [q99, fkeys])
                   refine ⟨j1.new m8, fun g hg => ?_⟩
                   have h1 := j2 g hg
                   have h2 := HS7.out.v.lt
                   have h3 := Hfb.out
                   have h4 := (HFj.out.2 g hg).2
                   exact ⟨by omega, Nat.lt_of_lt_of_le h1.2 m8.size, fun h => by have := (HS7.out.lo.lt g h).2; omega, fun h => by have := HOw.out g h; omega⟩) zl b8
                 replace hrun : (Builtin.append_ #[40, 40] 40 #[.slice A6 6 c6, .slice (some ⟨zl, 0, none⟩) 1 1]).run Tryz.prog v8 = .ok (.slice A22 7 c22) X22 := hrun
                 obtain ⟨w22, hw22⟩ : ∃ x, X22.setCell ⟨vb, 3, none⟩ (.slice A22 7 c22) = x := ⟨_, rfl⟩
                 have HM22 := q00 (hmod w2 (HM21.out.trans m8 (by simp)) (Nat.le_of_eq Hvb.out))
                 replace HM22 : Hid (Mod [] w2 w22) := q00 (by rw [← hw22]; exact HM22.out)
                 replace hms : MS (X22.setCell ⟨vb, 3, none⟩ (.slice A22 7 c22)) (vb + 1) vb 6 A22 c22 ([jnN kn, jnN e.time, jnN sn, jnN e.num, jnN e.many, jtN e.text] ++ [(JN.mk 6 0 ⟨#[]⟩ A20 c20 [jnN e.f.kind, jnN e.f.a, jnN e.f.b, jnN e.f.c, jbN fi, jtN e.f.data, jtN e.f.more, JN.mk 5 0 ⟨#[]⟩ A' c' l none 0 []] B9 d9 fkeys)]) B21 d21 (ekeys ++ [qc1]) := hms
                 rw [hw22] at hms
                 have HS22 := q00 hms
                 have HRun := q00 hrun
                 have r3 : X22.cell? ⟨vb, 3, none⟩ = some (.slice A6 6 c6) := hv6.cell 3
                 have f3 : X22.frozen? ⟨vb, 3, none⟩ = false := hv6.frozen 3
                 have l3 := hv6.lt
                 have p3 : v8.cell? ⟨vb, 3, none⟩ = some (.slice A6 6 c6) := (m8.cell pl (by simp)).trans p3
                 clear hrun hv6 hms hmod hm6 m8 b8 s8 hzl)
              | (at_builtin; refine Lib.wpList_append_run _ rfl (.tmp 134) (.tmp 136) 40 40 rfl (.slice A6 6 c6) (.slice (some ⟨zl, 0, none⟩) 1 1) rfl rfl (.slice A22 7 c22) X22 HRun.out ?_))
            have H22 := q00 (H2.out.new HM22.out);clear p3 pl;go_wp2_with (first | (refine wpList_load_mid rfl 43 _ rfl vb 0 rfl (JN.mk 6 0 ⟨#[]⟩ A22 c22 ([jnN kn, jnN e.time, jnN sn, jnN e.num, jnN e.many, jtN e.text] ++ [(JN.mk 6 0 ⟨#[]⟩ A20 c20 [jnN e.f.kind, jnN e.f.a, jnN e.f.b, jnN e.f.c, jbN fi, jtN e.f.data, jtN e.f.more, JN.mk 5 0 ⟨#[]⟩ A' c' l none 0 []] B9 d9 fkeys)]) B21 d21 (ekeys ++ [qc1])).cells.toList _ HS22.out.v.range rfl rfl (by kernel_rfl) ?_) | (refine q01 rfl 43 _ _ rfl rfl (w.heap.size + 1) 43 zcs (JN.mk 6 0 ⟨#[]⟩ A22 c22 ([jnN kn, jnN e.time, jnN sn, jnN e.num, jnN e.many, jtN e.text] ++ [(JN.mk 6 0 ⟨#[]⟩ A20 c20 [jnN e.f.kind, jnN e.f.a, jnN e.f.b, jnN e.f.c, jbN fi, jtN e.f.data, jtN e.f.more, JN.mk 5 0 ⟨#[]⟩ A' c' l none 0 []] B9 d9 fkeys)]) B21 d21 (ekeys ++ [qc1])).cells H22.out.r rfl rfl (by kernel_rfl) rfl (by kernel_rfl) ?_; intro w9 m9 b9 s9; have HM9 := q00 m9; have HB9 := q00 b9; clear m9 b9 s9));refine bodyPost_ret (q02 rfl _ _ (w.heap.size + 1) 43 (JN.mk 6 0 ⟨#[]⟩ A22 c22 ([jnN kn, jnN e.time, jnN sn, jnN e.num, jnN e.many, jtN e.text] ++ [(JN.mk 6 0 ⟨#[]⟩ A20 c20 [jnN e.f.kind, jnN e.f.a, jnN e.f.b, jnN e.f.c, jbN fi, jtN e.f.data, jtN e.f.more, JN.mk 5 0 ⟨#[]⟩ A' c' l none 0 []] B9 d9 fkeys)]) B21 d21 (ekeys ++ [qc1])).cells _ rfl HB9.out Tryz.underlying43 rfl (by kernel_rfl)) rfl ?_;obtain ⟨j1, j2⟩ := HS22.out.jin (by simp [q99]) (by simp [q99, ekeys]);refine ⟨(JN.mk 6 0 ⟨#[]⟩ A22 c22 ([jnN kn, jnN e.time, jnN sn, jnN e.num, jnN e.many, jtN e.text] ++ [(JN.mk 6 0 ⟨#[]⟩ A20 c20 [jnN e.f.kind, jnN e.f.a, jnN e.f.b, jnN e.f.c, jbN fi, jtN e.f.data, jtN e.f.more, JN.mk 5 0 ⟨#[]⟩ A' c' l none 0 []] B9 d9 fkeys)]) B21 d21 (ekeys ++ [qc1])), ?_, ?_, JIn.mod HM9.out (fun g hg => by have := (j2 g hg).1; have := HVb.out; simp; omega) j1, H22.out.m.trans HM9.out (by intro x hx; right; simp at hx; omega)⟩
            · rw [HMv.out]; rfl
            · rw [HMv.out, if_pos rfl, JN.v];simp only [JN.vs_app, JN.vs, j95, jo2, jz5];rw [JN.v];simp only [JN.vs, j95, jo2, jz5];rw [JN.v, HvN.out];unfold q37;rw [← HKn.out, ← HSn.out, show e.bare = false from HBa.out];unfold jfr;rw [HFi.out];rfl
theorem qv (n:Nat):∃K:ByteArray,K.size≤8∧K.data.toList=q03 n∧∀w,Calls Tryz.prog 75 #[.int .u64 n] w fun e w'=>e=.returned (.string K)∧Mod [] w w':=by obtain⟨K, -,h1,h2,h3⟩:=qd5 n;refine⟨K,h2,h3,fun w=> ?_⟩;have h:=jq6 w n;rw[h1]at h;have H:=q00 h;clear h h1 h2 h3;go_enter Tryz.func75,Tryz.ntmps75;go_wp2_with fail;refine H.out.mono ?_;rintro e w1 ⟨rfl,m1⟩;have HM:=q00 m1;clear m1;go_wp2_with fail;go_ret;exact⟨rfl,HM.out⟩
theorem ja6 (S:ByteArray) (hS:S.size≤4611686018427387904):∃K:ByteArray,K.size≤S.size+8∧K.data.toList=qk9 S.data.toList∧∀w,Calls Tryz.prog 74 #[.string S] w fun e w'=>e=.returned (.string K)∧Mod [] w w':=by obtain⟨K,h1,h2,hp⟩:=qv S.size;refine⟨K++ S,by rw[ByteArray.size_append];omega,by simp[qk9,h2,q05],fun w=> ?_⟩;have hq:¬9223372036854775807 < K.size+S.size:=(by omega);have HP:=q00 hp;clear h1 h2 hp;go_enter Tryz.func74,Tryz.ntmps74;go_wp2_with fail;refine(HP.out _).mono ?_;rintro e w1 ⟨rfl,m1⟩;have HM:=q00 m1;clear m1;go_wp2_with fail;go_ret;exact⟨rfl,HM.out⟩
theorem z65 (w:World) (A:Option Addr) (n c:Nat) (e:Ev) (hr:Rngs w A n e.f.list) (hk:0≤e.kind∧e.kind < 4611686018427387904) (hs:0≤e.space∧e.space < 4611686018427387904) (ht:e.text.size≤1000000):∃K:ByteArray,K.size≤2000000∧K.data.toList=qf2 e∧
  Calls Tryz.prog 37 #[q46 A n c e] w fun r w'=>r=.returned (.string K)∧Mod [] w w':=by
 obtain⟨kn,hkn⟩:∃kn,e.kind.toNat=kn:=⟨_,rfl⟩;obtain⟨sn,hsn⟩:∃sn,e.space.toNat=sn:=⟨_,rfl⟩;have hfl:(qa4 e).length≤17000:=by
  unfold qa4
  split
  ·simp
  ·unfold fwS
   split
   ·rename_i hm;exact qu0 hm
   ·simp
 obtain⟨X,hX,hXs,hXl⟩:=z07 (qa4 e);obtain⟨K1,k1,l1,p1⟩:=qv kn;obtain⟨K2,k2,l2,p2⟩:=qv (e.time);obtain⟨K3,k3,l3,p3⟩:=qv sn;obtain⟨K4,k4,l4,p4⟩:=qv (e.num);obtain⟨K5,k5,l5,p5⟩:=qv (e.many);obtain⟨K6,k6,l6,p6⟩:=ja6 e.text (by omega);obtain⟨K7,k7,l7,p7⟩:=ja6 X (by omega);have hsz:(K1++ K2++ K3++ K4++ K5++ K6++ K7).size≤1100000:=(by simp only[ByteArray.size_append];omega);obtain⟨K8,k8,l8,p8⟩:=ja6 (K1++ K2++ K3++ K4++ K5++ K6++ K7) (by omega);refine⟨K8,by omega,?_,?_⟩
 ·rw[l8];unfold qf2 qc9;rw[hkn,hsn,←hXl,←l1,←l2,←l3,←l4,←l5,←l6,←l7];simp[List.append_assoc]
 have HP1:=q00 p1;have HP2:=q00 p2;have HP3:=q00 p3;have HP4:=q00 p4;have HP5:=q00 p5;have HP6:=q00 p6;have HP7:=q00 p7;have HP8:=q00 p8;have q1:¬9223372036854775807 < K1.size+K2.size:=(by omega);have q2:¬9223372036854775807 < K1.size+K2.size+K3.size:=(by omega);have q3:¬9223372036854775807 < K1.size+K2.size+K3.size+K4.size:=(by omega);have q4:¬9223372036854775807 < K1.size+K2.size+K3.size+K4.size+K5.size:=(by omega);have q5:¬9223372036854775807 < K1.size+K2.size+K3.size+K4.size+K5.size+K6.size:=(by omega);have q6:¬9223372036854775807 < K1.size+K2.size+K3.size+K4.size+K5.size+K6.size+K7.size:=(by omega);have u1:IntKind.u64.wrap e.kind=(kn:Int):=(by rw[IntWalk.u64_in _ (by omega)];omega);have u2:IntKind.u64.wrap e.space=(sn:Int):=(by rw[IntWalk.u64_in _ (by omega)];omega);obtain⟨ec,hec⟩:∃ec,ecs A n c e=ec:=⟨_,rfl⟩;obtain⟨b,hb⟩:∃b,qc6 e.f fr0=b:=⟨_,rfl⟩;have HX0:Hid (b=true→X=⟨#[]⟩):=q00 (fun h=>by have:X.data.toList= []:=(by rw[hXl];unfold qa4 Ev.bare;rw[hb,h];rfl);rw[←q36 X,this]);have HXf:Hid (b=false→str (fwS e.f)=.string X):=q00 (fun h=>by rw[←hX];unfold qa4 Ev.bare;rw[hb,h];rfl);have HN:=q00 (fun w' (m:Mod [] w w')=>qx1 w' A n c e.f (hr.new m));have HW:=q00 (fun w' (m:Mod [] w w')=>jq4 w' A n c e.f (hr.new m));rw[hb]at HN;unfold q17 at HN HW;have H1:=q00 ((Mod.refl [] w).alloc (.cells ec 38));have HB1:=q00 (Blk.new w 38 ec);obtain⟨w1,hw1⟩:∃w1,w.alloc (.cells ec 38)=w1:=⟨_,rfl⟩;rw[hw1]at H1 HB1;have HEc:=q00 hec;have HFz:Hid ((fcs A n c e.f).size=8):=q00 rfl;have HR1:=q00 (j79 HB1.out hec);have HW1:=q00 hw1;unfold q46;rw[hec];clear hk hs ht hkn hsn hfl hX hXs hXl hsz k1 k2 k3 k4 k5 k6 k7 k8 l1 l2 l3 l4 l5 l6 l7 l8 p1 p2 p3 p4 p5 p6 p7 p8 hec hb hr hw1;obtain⟨fc,hfc⟩:∃fc,fcs A n c e.f=fc:=⟨_,rfl⟩;rw[hfc]at HN HW HFz HR1;clear hfc;go_enter Tryz.func37,Tryz.ntmps37;go_upto_region 2 with fail;rw[HW1.out];go_wp2_with (refine wpList_load_mid rfl 36 _ rfl w.heap.size 6 rfl fc.toList _ HR1.out rfl rfl (by rw[Array.length_toList,HFz.out];kernel_rfl) ?_);refine(HN.out _ H1.out).mono ?_;rintro e0 w2 ⟨rfl,m2⟩;have H2:=q00 (H1.out.trans m2 (by simp));have HB2:=q00 (m2.blk HB1.out (by simp));clear m2;go_upto_if 7 with fail;go_cut [3] (fun x wx=>x=.string X∧Hid (Mod [] w wx)∧Hid (Blk wx w.heap.size 38 ec))
 case first=>
  cases b with
  | true=>go_wp2_with fail;go_meet;exact⟨by rw[HX0.out (by trivial)],H2,HB2⟩
  | false=>have HR2:=q00 (j79 HB2.out HEc.out);have HRr:Hid (w2.rangeAt w.heap.size 6 fc.toList):=q00 (by have h:=HR1.out;intro j u hj;have h1:=h j u hj;rw[HB1.out.cell]at h1;rw[HB2.out.cell];exact h1);go_wp2_with (refine wpList_load_mid rfl 36 _ rfl w.heap.size 6 rfl fc.toList _ HRr.out rfl rfl (by rw[Array.length_toList,HFz.out];kernel_rfl) ?_);refine(HW.out _ H2.out).mono ?_;rintro e0 w3 ⟨rfl,m3⟩;have H3:=q00 (H2.out.trans m3 (by simp));have HB3:=q00 (m3.blk HB2.out (by simp));rw[HXf.out (by trivial)];clear m3;go_wp2_with fail;go_meet;exact⟨rfl,H3,HB3⟩
 case rest=>
  obtain⟨rfl,hm,hb⟩:=hcut;have y0:∀i:Fam (Mod [] wc),i.w.cell? ⟨w.heap.size,0,none⟩=some (.int .i64 e.kind):=q09 ((hb.out.cell 0).trans (by rw[←HEc.out];rfl)) (by simp);have y1:∀i:Fam (Mod [] wc),i.w.cell? ⟨w.heap.size,1,none⟩=some (.int .i64 e.space):=q09 ((hb.out.cell 1).trans (by rw[←HEc.out];rfl)) (by simp);have y2:∀i:Fam (Mod [] wc),i.w.cell? ⟨w.heap.size,2,none⟩=some (.int .u64 (e.time:Nat)):=q09 ((hb.out.cell 2).trans (by rw[←HEc.out];rfl)) (by simp);have y3:∀i:Fam (Mod [] wc),i.w.cell? ⟨w.heap.size,3,none⟩=some (.int .u64 (e.num:Nat)):=q09 ((hb.out.cell 3).trans (by rw[←HEc.out];rfl)) (by simp);have y4:∀i:Fam (Mod [] wc),i.w.cell? ⟨w.heap.size,4,none⟩=some (.int .u64 (e.many:Nat)):=q09 ((hb.out.cell 4).trans (by rw[←HEc.out];rfl)) (by simp);have y5:∀i:Fam (Mod [] wc),i.w.cell? ⟨w.heap.size,5,none⟩=some (.string e.text):=q09 ((hb.out.cell 5).trans (by rw[←HEc.out];rfl)) (by simp);go_upto_region 4 with fail;refine q78 (Mod [] wc) [] [([0,1,2,4,5,8,9,10,13,14,17,18,21,22,25],3),([],6),([7],11),([12],15),([16],19),([20],23),([24],26),([27],28)] [29] (by kernel_rfl) (by kernel_rfl) (fun _ _ _ _ _ h=>h) ((Mod.refl [] wc).drew) ?_;show wpQuiet _ _ _ _ _ _;simp only[gd];(repeat (go_big_quiet_step (fail)));refine wpQuiet_nil ?_;clear y0 y1 y2 y3 y4 y5;have HV:=q00 ((Mod.refl [] wc).drew);iterate 8
   go_wp2_with fail
   first | (refine(HP1.out _).mono ?_;clear HP1) | (refine(HP2.out _).mono ?_;clear HP2) | (refine(HP3.out _).mono ?_;clear HP3) | (refine(HP4.out _).mono ?_;clear HP4) | (refine(HP5.out _).mono ?_;clear HP5) | (refine(HP6.out _).mono ?_;clear HP6) | (refine(HP7.out _).mono ?_;clear HP7) | (refine(HP8.out _).mono ?_;clear HP8)
   rintro e0 v9 ⟨rfl,m9⟩
   have HV:=q00 (HV.out.trans m9 (by simp))
   clear m9
   go_wp2_with fail
   refine Ph.on (fun _=>HV.out) ?_
   show wpQuiet _ _ _ _ _ _
   simp only[gd]
   repeat (go_big_quiet_step (fail))
   refine wpQuiet_nil ?_
  go_wp2_with fail;go_ret;exact⟨rfl,hm.out.trans HV.out (by simp)⟩
def j60 (O:Ev→List UInt8) (l:List EV) (w:World) (r:Ending) (w':World):Prop:=r=.returned (q79 O l)∧Mod [] w w'
theorem z03 {l:List EV} {j:Nat} {x:EV} (h:l[j]? =some x) (hn:q28 x.e=false):qn4 l=false:=by unfold qn4;rw[Bool.eq_false_iff];intro h2;have:=List.all_eq_true.1 h2 x (List.mem_of_getElem? h);rw[hn]at this;cases this
theorem z64 (w:World) (A:Option Addr) (c:Nat) (l:List EV) (h:EIn w A l) (hl:l.length≤1000000):Calls Tryz.prog 19 #[.slice A l.length c] w (j60 qf2 l w):=by
 obtain⟨n,hn⟩:∃n,l.length=n:=⟨_,rfl⟩;have HN:=q00 hn;have HE:=q00 (fun w' (m:Mod [] w w')=>h.new m);rw[hn]at hl ⊢;clear h hn;go_enter Tryz.func19,Tryz.ntmps19;go_wp2_with fail;go_loopw [4,5] (fun ov iv wr=>∃(j:Nat) (O:ByteArray),ov=.string O∧iv=.int .i64 (j:Int)∧j≤n∧Hid (O.data.toList=qr7 qf2 (l.take j))∧Hid (qn4 (l.take j)=true)∧Hid (O.size≤2000000 * j)∧Hid (Mod [] w wr)) (fun _ iv _=>n - (intOf iv).toNat)
 case atStart=>exact⟨0,⟨#[]⟩,rfl,rfl,Nat.zero_le _,q00 rfl,q00 rfl,q00 (Nat.zero_le _),q00 (Mod.refl [] w)⟩
 case round=>
  obtain⟨j,O,rfl,rfl,hj,ho,hmy,hos,hm⟩:=hrel;by_cases hlt:j < n
  ·obtain⟨y,hy⟩:∃y,l[j]? =some y:=⟨_,List.getElem?_eq_getElem (by have:=HN.out;omega)⟩;have hei:=HE.out wr hm.out;obtain⟨g,o,rfl,hg,hrg⟩:=hei.at_ hy;have HRg:=q00 hrg;have HRr:=q00 (fun w' (m:Mod [] wr w')=>(hei.rng y (List.mem_of_getElem? hy)).new m);have HRw:=q00 (fun w' (m:Mod [] wr w')=>q64 (S:=Mod [] w') (W:=w') (g:=g) (o:=o+j * 14) (cs:=y.cells));have HTk:=q00 (q96 hy);have HNo:=q00 (fun h9=>z03 (l:=l) hy h9);obtain⟨ec,hec⟩:∃ec,ecs y.A y.e.f.list.length y.c y.e=ec:=⟨_,rfl⟩;have HEc:=q00 hec;have HEz:Hid (ec.size=14):=q00 (by rw[←hec];rfl);obtain⟨b,hb⟩:∃b,q28 y.e=b:=⟨_,rfl⟩;have HMb:=q00 hb;have HMay:=q00 (fun w' (m:Mod [] wr w')=>j19 w' y.A y.e.f.list.length y.c y.e (HRr.out w' m));rw[hb]at HMay;have HRg':Hid (∀w',Mod [] wr w'→w'.rangeAt g (o+j * 14) ec.toList):=q00 (fun w' m j2 u hu=>(m.cell (p:=⟨g,o+j * 14+j2,none⟩) hg (by simp)).trans (hrg j2 u (by unfold EV.cells;rw[hec];exact hu)));have R0:=q00 (HRg'.out wr (Mod.refl [] wr));unfold q46 at HMay;rw[hec]at HMay;clear hy hei hrg hec hb;go_wp2_with (refine wpList_load_mid rfl 38 _ rfl g (o+j * 14) rfl ec.toList _ R0.out rfl rfl (by rw[Array.length_toList,HEz.out];kernel_rfl) ?_);refine(HMay.out wr (Mod.refl [] wr)).mono ?_;rintro e0 w2 ⟨rfl,m2⟩;have HM2:=q00 m2;clear m2;cases b with
   | false=>go_wp2_with fail;go_ret2;exact⟨by rw[qp9 (HNo.out HMb.out)];rfl,hm.out.trans HM2.out (by simp)⟩
   | true=>
    have hok:=emay_iff.1 HMb.out;obtain⟨K,hK,hKl,hKc⟩:=z65 w2 y.A y.e.f.list.length y.c y.e (HRr.out w2 HM2.out) ⟨by have:=hok.k1;omega,by have:=hok.k2;omega⟩ ⟨hok.s1,by have:=hok.s2;omega⟩ (by have:=hok.text;omega);unfold q46 at hKc;rw[HEc.out]at hKc;have HC:=q00 hKc;have HKl:=q00 hKl;have HKs:=q00 hK;have R2:=q00 (HRg'.out w2 HM2.out);have hcc:¬9223372036854775807 < O.size+K.size:=by have:=hos.out;omega
    clear hok hK hKl hKc;go_wp2_with (refine wpList_load_mid rfl 38 _ rfl g (o+j * 14) rfl ec.toList _ R2.out rfl rfl (by rw[Array.length_toList,HEz.out];kernel_rfl) ?_);refine HC.out.mono ?_;rintro e0 w3 ⟨rfl,m3⟩;have HM3:=q00 (hm.out.trans (HM2.out.trans m3 (by simp)) (by simp));clear m3;go_wp2_with fail;go_roundw
    case rel=>exact⟨j+1,O++ K,rfl,by go_num,by omega,q00 (by rw[HTk.out,j16,←ho.out,←HKl.out];simp),q00 (by rw[HTk.out,j15,hmy.out,HMb.out];rfl),q00 (by rw[ByteArray.size_append];have:=hos.out;have:=HKs.out;omega),HM3⟩
    case measure=>simp[intOf];omega
  ·have hjn:j=n:=(by omega);have HJ:=q00 hjn;clear hjn;go_wp2_with fail;go_ret2;refine⟨?_,hm.out⟩;have e1:l.take j=l:=List.take_of_length_le (by have:=HN.out;have:=HJ.out;omega);have h1:=ho.out;have h2:=hmy.out;rw[e1]at h1 h2;rw[qi2 h2,←h1];unfold str;rw[q36];rfl
theorem z69 {e:Ev} (hm:q28 e=true) (h:esz e≤4096):(jwr (q37 e)).length≤100000:=by
 have h1:=jj0 (q37 e) (qz4 hm);have h2:wsz (q37 e)≤1000+6 * e.text.size+6 * e.f.data.size+6 * e.f.more.size+72 * e.f.list.length:=by
  unfold q37;rw[wsz,js1];simp only[qj6,jl3,zl1];have hk:∀b:Bool,ksz (ekeys++ if b then []else [qc1])≤29:=(by decide+kernel);have:=hk e.bare;have h0:(⟨#[]⟩:ByteArray).size=0:=rfl;cases hb:e.bare with
  | true=>rw[hb]at this;simp only[if_true,qj6]at this ⊢;omega
  | false=>rw[hb]at this;have hks:ksz fkeys≤22:=(by decide+kernel);have hj:wsz (jfr e.f)≤6 * e.f.data.size+6 * e.f.more.size+72 * e.f.list.length+400:=(by unfold jfr;rw[wsz];simp only[qj6,jl3,zw,zl1];rw[wsz,z15];have h9:ksz []=0:=rfl;omega);simp only[Bool.false_eq_true,if_false,qj6]at this ⊢;omega
 have h3:=j80 hm;unfold esz at h;omega
theorem z66 (w:World) (A:Option Addr) (c:Nat) (l:List EV) (h:EIn w A l) (hl:l.length≤1000000) (hz:∀x∈l,esz x.e≤4096):Calls Tryz.prog 21 #[.slice A l.length c] w (j60 qm2 l w):=by
 obtain⟨n,hn⟩:∃n,l.length=n:=⟨_,rfl⟩;have HN:=q00 hn;have HE:=q00 (fun w' (m:Mod [] w w')=>h.new m);have HZ:=q00 hz;rw[hn]at hl ⊢;clear h hn hz;go_enter Tryz.func21,Tryz.ntmps21;go_wp2_with fail;go_loopw [4,5] (fun ov iv wr=>∃(j:Nat) (O:ByteArray),ov=.string O∧iv=.int .i64 (j:Int)∧j≤n∧Hid (O.data.toList=qr7 qm2 (l.take j))∧Hid (qn4 (l.take j)=true)∧Hid (O.size≤100010 * j)∧Hid (Mod [] w wr)) (fun _ iv _=>n - (intOf iv).toNat)
 case atStart=>exact⟨0,⟨#[]⟩,rfl,rfl,Nat.zero_le _,q00 rfl,q00 rfl,q00 (Nat.zero_le _),q00 (Mod.refl [] w)⟩
 case round=>
  obtain⟨j,O,rfl,rfl,hj,ho,hmy,hos,hm⟩:=hrel;by_cases hlt:j < n
  ·obtain⟨y,hy⟩:∃y,l[j]? =some y:=⟨_,List.getElem?_eq_getElem (by have:=HN.out;omega)⟩;have hei:=HE.out wr hm.out;obtain⟨g,o,rfl,hg,hrg⟩:=hei.at_ hy;have hva:=jq0 wr y.A y.c y.e (hei.rng y (List.mem_of_getElem? hy));have HTk:=q00 (q96 hy);have HNo:=q00 (fun h9=>z03 (l:=l) hy h9);have HSh:=q00 (fun h9=>z69 (e:=y.e) h9 (HZ.out y (List.mem_of_getElem? hy)));obtain⟨ec,hec⟩:∃ec,ecs y.A y.e.f.list.length y.c y.e=ec:=⟨_,rfl⟩;have HEz:Hid (ec.size=14):=q00 (by rw[←hec];rfl);obtain⟨b,hb⟩:∃b,q28 y.e=b:=⟨_,rfl⟩;have HMb:=q00 hb;have R0:Hid (wr.rangeAt g (o+j * 14) ec.toList):=q00 (by rw[←hec];exact hrg);unfold jh4 q46 at hva;rw[hec,hb]at hva;have HVa:=q00 hva;clear hy hei hrg hec hb hva;go_wp2_with (refine wpList_load_mid rfl 38 _ rfl g (o+j * 14) rfl ec.toList _ R0.out rfl rfl (by rw[Array.length_toList,HEz.out];kernel_rfl) ?_);refine HVa.out.mono ?_;rintro e0 w2 ⟨X,rfl,hxv,hxi,m2⟩;have HM2:=q00 m2;have HXv:=q00 hxv;have HXi:=q00 hxi;have HXo:Hid (X.cells.all (·.oneCell')=true):=q00 (by cases X;simp[JN.cells,Value.oneCell']);clear m2 hxv hxi;go_upto_region 6 with(refine q06 rfl 43 _ _ rfl rfl zcs X.cells rfl rfl (by rw[X.cells_size];kernel_rfl) (by rw[X.cells_size];rfl) HXo.out ?_;intro w3 m3 b3 s3;have HM3:=q00 (HM2.out.trans m3 (by simp));have HX3:=q00 (HXi.out.new m3);have HB3:=q00 b3;clear m3 b3 s3);cases b with
   | false=>go_wp2_with fail;go_ret2;exact⟨by rw[qp9 (HNo.out HMb.out)];rfl,hm.out.trans HM3.out (by simp)⟩
   | true=>
    have hxe:X.v=q37 y.e:=HXv.out.trans (if_pos rfl);have hwl:=zq3 w3 X HX3.out (by rw[hxe];exact qz4 HMb.out) (by rw[hxe];exact HSh.out HMb.out) (by rw[hxe];exact j56 _);have HWl:=q00 hwl;have HXe:=q00 hxe;have XL:=q00 HB3.out.range;clear hwl hxe;go_wp2_with (refine wpList_load_mid rfl 43 _ rfl w2.heap.size 0 rfl X.cells.toList _ XL.out rfl rfl (by rw[Array.length_toList,X.cells_size];kernel_rfl) ?_);refine HWl.out.mono ?_;rintro e0 w4 ⟨K,rfl,hK,m4⟩;have HM4:=q00 (hm.out.trans (HM3.out.trans m4 (by simp)) (by simp));have HKl:Hid (K.data.toList=jwr (q37 y.e)):=q00 (by rw[hK,HXe.out]);have HKs:Hid (K.size≤100000):=q00 (by have h1:=congrArg List.length HKl.out;rw[q05]at h1;rw[h1];exact HSh.out HMb.out);have q1:¬9223372036854775807 < 1+K.size:=by have:=HKs.out;omega
    have q2:¬9223372036854775807 < 1+K.size+1:=by have:=HKs.out;omega
    have q3:¬9223372036854775807 < O.size+(1+K.size+1):=by have:=HKs.out;have:=hos.out;omega
    clear m4 hK;go_wp2_with fail;go_roundw
    case rel=>exact⟨j+1,O++ (⟨#[30]⟩++ K++ ⟨#[10]⟩),rfl,by go_num,by omega,q00 (by rw[HTk.out,j16,←ho.out,qm2,←HKl.out];simp),q00 (by rw[HTk.out,j15,hmy.out,HMb.out];rfl),q00 (by simp only[ByteArray.size_append];have:=hos.out;have:=HKs.out;have h1:(⟨#[30]⟩:ByteArray).size=1:=rfl;have h2:(⟨#[10]⟩:ByteArray).size=1:=rfl;omega),HM4⟩
    case measure=>simp[intOf];omega
  ·have hjn:j=n:=(by omega);have HJ:=q00 hjn;clear hjn;go_wp2_with fail;go_ret2;refine⟨?_,hm.out⟩;have e1:l.take j=l:=List.take_of_length_le (by have:=HN.out;have:=HJ.out;omega);have h1:=ho.out;have h2:=hmy.out;rw[e1]at h1 h2;rw[qi2 h2,←h1];unfold str;rw[q36];rfl
end Go.Proofs.YtlfjhgamlkbofaaGreatDoor
