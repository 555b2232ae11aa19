/-
  Contracts of the functions that the laws of this seat reach, and plain laws, part 10 of 13; no condition.
-/
import Derived.Test.YtlfjhgamlkbofaaGreatDoorPE1
import Derived.Test.YtlfjhgamlkbofaaGreatDoorPC
import Derived.Test.YtlfjhgamlkbofaaGreatDoorPJ1
import Derived.Deep.DeepCutAuto
import Derived.Deep.Cut
set_option linter.unusedVariables false
set_option linter.unusedSimpArgs false
set_option linter.unnecessarySimpa false
set_option maxRecDepth 100000
set_option maxHeartbeats 16000000
namespace Go.Proofs.YtlfjhgamlkbofaaGreatDoor
open Go.RowKit Js
def jnN (n:Nat):JN:=.mk 3 (n:Int) ⟨#[]⟩ none 0 [] none 0 []
def jtN (s:ByteArray):JN:=.mk 4 0 s none 0 [] none 0 []
def jbN (b:Bool):JN:=.mk (if b then 2 else 1) 0 ⟨#[]⟩ none 0 [] none 0 []
theorem jnN_v (n:Nat):(jnN n).v=jn n:=by unfold jnN jn;rw[JN.v,JN.vs]
theorem jtN_v (s:ByteArray):(jtN s).v=jt s:=by unfold jtN jt;rw[JN.v,JN.vs]
theorem jbN_v (b:Bool):(jbN b).v=jb b:=by unfold jbN jb;rw[JN.v,JN.vs]
theorem enumber_any (w:World) (n:Nat) (hn:n < 4611686018427387904):Calls Tryz.prog 58 #[.int .u64 (n:Nat)] w fun r w'=>r=.returned (.agg (jnN n).cells)∧Mod [] w w':=by
 have q:IntKind.i64.wrap (n:Int)=(n:Int):=IntWalk.i64_in _ (by omega)
 go_enter Tryz.func58,Tryz.ntmps58
 go_wp2_with (refine wpList_store_open rfl 43 _ _ rfl rfl _ (jnN n).cells rfl rfl (by kernel_rfl) rfl (by kernel_rfl) ?_;intro w6 m6 b6 s6;have HM:=hide m6;have HB:=hide b6;clear m6 b6 s6)
 refine bodyPost_ret (results_cell_row rfl _ _ w.heap.size 43 (jnN n).cells (0,0) _ rfl HB.out Tryz.underlying43 rfl (by kernel_rfl)) rfl ?_
 exact⟨rfl,HM.out⟩
theorem ewords_any (w:World) (s:ByteArray):Calls Tryz.prog 59 #[.string s] w fun r w'=>r=.returned (.agg (jtN s).cells)∧Mod [] w w':=by
 go_enter Tryz.func59,Tryz.ntmps59
 go_wp2_with (refine wpList_store_open rfl 43 _ _ rfl rfl _ (jtN s).cells rfl rfl (by kernel_rfl) rfl (by kernel_rfl) ?_;intro w6 m6 b6 s6;have HM:=hide m6;have HB:=hide b6;clear m6 b6 s6)
 refine bodyPost_ret (results_cell_row rfl _ _ w.heap.size 43 (jtN s).cells (0,0) _ rfl HB.out Tryz.underlying43 rfl (by kernel_rfl)) rfl ?_
 exact⟨rfl,HM.out⟩
theorem etruth_any (w:World) (b:Bool):Calls Tryz.prog 97 #[.bool b] w fun r w'=>r=.returned (.agg (jbN b).cells)∧Mod [] w w':=by
 cases b with
 | false=>
  go_enter Tryz.func97,Tryz.ntmps97
  go_wp2_with (refine wpList_store_open rfl 43 _ _ rfl rfl _ (jbN false).cells rfl rfl (by kernel_rfl) rfl (by kernel_rfl) ?_;intro w6 m6 b6 s6;have HM:=hide m6;have HB:=hide b6;clear m6 b6 s6)
  refine bodyPost_ret (results_cell_row rfl _ _ w.heap.size 43 (jbN false).cells (0,0) _ rfl HB.out Tryz.underlying43 rfl (by kernel_rfl)) rfl ?_
  exact⟨rfl,HM.out⟩
 | true=>
  go_enter Tryz.func97,Tryz.ntmps97
  go_wp2_with (refine wpList_store_open rfl 43 _ _ rfl rfl _ (jbN true).cells rfl rfl (by kernel_rfl) rfl (by kernel_rfl) ?_;intro w6 m6 b6 s6;have HM:=hide m6;have HB:=hide b6;clear m6 b6 s6)
  refine bodyPost_ret (results_cell_row rfl _ _ w.heap.size 43 (jbN true).cells (0,0) _ rfl HB.out Tryz.underlying43 rfl (by kernel_rfl)) rfl ?_
  exact⟨rfl,HM.out⟩
def KsPost (l:List ByteArray) (w:World) (r:Ending) (w':World):Prop:=r=.returned (.slice (some ⟨w.heap.size,0,none⟩) l.length l.length)∧Blk w' w.heap.size 9 (l.map Value.string).toArray∧Mod [] w w'
theorem ekeys_any (w:World):Calls Tryz.prog 57 #[] w (KsPost ekeys w):=by
 go_enter Tryz.func57,Tryz.ntmps57
 go_wp2_with fail
 go_ret
 exact⟨rfl,Blk.new _ _ _,(Mod.refl [] w).alloc _⟩
theorem efkeys_any (w:World):Calls Tryz.prog 96 #[] w (KsPost fkeys w):=by
 go_enter Tryz.func96,Tryz.ntmps96
 go_wp2_with fail
 go_ret
 exact⟨rfl,Blk.new _ _ _,(Mod.refl [] w).alloc _⟩
structure VLs (w:World) (base:Nat) (A:Option Addr) (c:Nat) (l:List JN):Prop where
 lo:w.ownsRow base 43 5 (.slice A l.length c) l.length (jlcells l)
 inn:∀x∈l,JIn w x∧∀g∈JFoot x,base≤g∧g < w.heap.size∧(Value.slice A l.length c).ownBlock≠some g
section
variable {w w':World} {base:Nat} {A:Option Addr} {c:Nat} {l:List JN}
theorem VLs.nil (w:World) (base:Nat):VLs w base none 0 []:=⟨World.ownsRow_nil _ _ _ _,by simp⟩
theorem VLs.mod {F:List Nat} (h:VLs w base A c l) (m:Mod F w w') (hF:∀g∈F,g < base):VLs w' base A c l:=by
 refine⟨m.own h.lo (fun k hk hf=> ?_),fun x hx=> ?_⟩
 ·have:=(h.lo.lt k hk).1;have:=hF k hf;omega
 ·obtain⟨h1,h2⟩:=h.inn x hx
  refine⟨JIn.mod m (fun g hg hf=> ?_) h1,fun g hg=> ?_⟩
  ·have:=(h2 g hg).1;have:=hF g hf;omega
  ·obtain⟨a1,a2,a3⟩:=h2 g hg
   exact⟨a1,Nat.lt_of_lt_of_le a2 m.size,a3⟩
theorem VLs.app (h:VLs w base A c l) (hb:base≤w.heap.size) (hn:l.length≤1000000) (x:JN) (hx:JIn w x) (hf:∀g∈JFoot x,base≤g∧g < w.heap.size∧(Value.slice A l.length c).ownBlock≠some g) (zb:Nat) (hz:Blk w zb 43 x.cells):
  ∃A' c' w6,(Builtin.append_ #[40,40] 40 #[.slice A l.length c,.slice (some ⟨zb,0,none⟩) 1 1]).run Tryz.prog w=.ok (.slice A' (l.length+1) c') w6∧VLs w6 base A' c' (l++ [x])∧(∀k,(Value.slice A' (l.length+1) c').ownBlock=some k→(Value.slice A l.length c).ownBlock=some k∨w.heap.size≤k)∧(∀k∈(Value.slice A l.length c).ownBlock.toList,base≤k)∧
   Mod (Value.slice A l.length c).ownBlock.toList w w6:=by
 obtain⟨A',c',w6,h1,h2,h3,h4⟩:=app_one (P:=Tryz.prog) Tryz.underlying40 valInfo rfl w 40 base _ _ _ h.lo hb x.cells.toList (by rw[Array.length_toList];exact x.cells_size) (by cases x;simp[JN.cells,Value.oneCell']) (by omega) (by omega) zb (fun j u hu=>by
  rw[hz.cell j];simpa using hu)
 have hl:(l++ [x]).length=l.length+1:=by simp
 refine⟨A',c',w6,h1,⟨by rw[hl,lcells_app];exact h2,?_⟩,fun k hk=>by rcases h4 with h4 | h4 <;> rw[h4]at hk <;> first | exact .inl hk | (cases hk;exact .inr (Nat.le_refl _)),fun k hk=>(h.lo.lt k (by rw[Option.mem_toList]at hk;exact hk)).1,h3⟩
 have inn:∀y,JIn w y→(∀g∈JFoot y,base≤g∧g < w.heap.size∧(Value.slice A l.length c).ownBlock≠some g)→JIn w6 y∧∀g∈JFoot y,base≤g∧g < w6.heap.size∧(Value.slice A' (l++ [x]).length c').ownBlock≠some g:=by
  intro y hy hfy
  refine⟨JIn.mod h3 (fun g hg hm=> ?_) hy,fun g hg=> ?_⟩
  ·rw[Option.mem_toList]at hm
   exact(hfy g hg).2.2 hm
  ·obtain⟨b1,b2,b3⟩:=hfy g hg
   refine⟨b1,Nat.lt_of_lt_of_le b2 h3.size,?_⟩
   rw[hl]
   rcases h4 with h4 | h4
   ·rw[h4];exact b3
   ·rw[h4];intro e;cases e;omega
 intro y hy
 rcases List.mem_append.1 hy with hy | hy
 ·exact inn y (h.inn y hy).1 (h.inn y hy).2
 ·rw[List.mem_singleton]at hy
  subst hy
  exact inn y hx hf
theorem VLs.row (h:VLs w base A c l):RowAt w A l:=by
 rcases h.lo.2 with⟨h0,h0'⟩ | ⟨g,cap,cur,hv,hb,hh,q1,q2,q3,q4⟩
 ·exact .inl (List.eq_nil_of_length_eq_zero h0')
 ·cases hv
  refine .inr ⟨g,0,rfl,Blk.lt hh,fun j x hx i u hu=> ?_⟩
  have:=World.ownsRow.cells h.lo (g:=g) rfl (j * 5+i) u (lcells_at l j x hx i u hu)
  rw[Addr.add_lit]at this
  rw[Nat.zero_add]at this
  rw[Nat.zero_add]
  exact this
theorem VLs.jins (h:VLs w base A c l):JIns w l:=JIns.of fun x hx=>(h.inn x hx).1
theorem VLs.foot (h:VLs w base A c l):∀g∈(A.map (·.block)).toList++ JFoots l,base≤g∧g < w.heap.size:=by
 intro g hg
 rcases List.mem_append.1 hg with hg | hg
 ·rcases h.lo.2 with⟨h0,_⟩ | ⟨g',cap,cur,hv,hb,_⟩
  ·injection h0 with e1 _ _;subst e1;cases hg
  ·cases hv;simp at hg;subst hg;exact h.lo.lt g rfl
 ·obtain⟨x,h1,h2⟩:=JFoots.inv hg
  exact⟨((h.inn x h1).2 g h2).1,((h.inn x h1).2 g h2).2.1⟩
theorem lcells_len:∀l:List JN,(jlcells l).length=l.length * 5
 | []=>rfl
 | x ::l=>by
  have:=lcells_len l
  unfold jlcells at this ⊢
  rw[List.flatMap_cons,List.length_append,this,Array.length_toList,x.cells_size,List.length_cons]
  omega
theorem VLs.laid {g:Nat} (hg:Blk w g 43 (jlcells l).toArray) (hb:base≤g) (hn:l.length≤1000000) (hin:∀x∈l,JIn w x∧∀k∈JFoot x,base≤k∧k < w.heap.size∧k≠g):VLs w base (some ⟨g,0,none⟩) l.length l:=by
 have hl:=lcells_len l
 refine⟨⟨hl,.inr ⟨g,l.length,(jlcells l).toArray,rfl,hb,hg,Nat.le_refl _,by simp only[maxLen];omega,by simpa using hl,?_⟩⟩,fun x hx=> ?_⟩
 ·rw[List.take_of_length_le]
  rw[hl];exact Nat.le_refl _
 ·obtain⟨h1,h2⟩:=hin x hx
  refine⟨h1,fun k hk=> ?_⟩
  obtain⟨a,b,d⟩:=h2 k hk
  exact⟨a,b,fun e=>by cases e;exact d rfl⟩
end
def TPost (tb:Nat) (b:Bool) (w:World) (v:Value) (bad:Bool) (r:Ending) (w':World):Prop:=r=.returned v∧Blk w' tb 82 #[.bool (b || bad)]∧Mod [tb] w w'
theorem tnum_any (w:World) (tb:Nat) (b:Bool) (x:JN) (hb:Blk w tb 82 #[.bool b]):Calls Tryz.prog 65 #[.pointer (some ⟨tb,0,none⟩),.agg x.cells] w (TPost tb b w (.int .u64 (gnum x.v:Nat)) (bnum x.v)):=by
 obtain⟨k,i,t,A,c,l,B,d,ks⟩:=x
 unfold JN.cells
 dsimp only
 have HB0:=hide hb
 have HB:=hide (hb.alloc (.cells #[.int .i64 k,.int .i64 i,.string t,.slice A l.length c,.slice B ks.length d] 43))
 have HM:=hide ((Mod.refl [tb] w).alloc (.cells #[.int .i64 k,.int .i64 i,.string t,.slice A l.length c,.slice B ks.length d] 43))
 have lt:=hb.lt
 have y0:(w.alloc (.cells #[.int .i64 k,.int .i64 i,.string t,.slice A l.length c,.slice B ks.length d] 43)).cell? ⟨tb,0,none⟩=some (.bool b):=HB.out.cell 0
 have u0:(w.alloc (.cells #[.int .i64 k,.int .i64 i,.string t,.slice A l.length c,.slice B ks.length d] 43)).frozen? ⟨tb,0,none⟩=false:=HB.out.frozen 0
 have hne:tb≠w.heap.size:=by omega
 obtain⟨bn,hbn⟩:∃bn,bnum (JN.mk k i t A c l B d ks).v=bn:=⟨_,rfl⟩
 obtain⟨gn,hgn⟩:∃gn,gnum (JN.mk k i t A c l B d ks).v=gn:=⟨_,rfl⟩
 rw[hbn,hgn]
 by_cases hk:k=3
 ·obtain rfl:=hk
  by_cases h0:i < 0
  ·have hn:bn=true:=by rw[←hbn,JN.v];unfold bnum JV.i;simp;omega
   have hg:gn=0:=by rw[←hgn];unfold gnum;rw[hbn,hn];rfl
   subst hn hg
   clear hbn hgn hb
   go_enter Tryz.func65,Tryz.ntmps65
   go_wp2_with fail
   go_ret
   exact⟨rfl,by rw[Bool.or_true];exact(HB0.out.set_ 0 (.bool true)).alloc _,((Mod.refl [tb] w).setCell (p:=⟨tb,0,none⟩) (.inl (by simp)) _).alloc _⟩
  ·by_cases h1:4611686018427387903 < i
   ·have hn:bn=true:=by rw[←hbn,JN.v];unfold bnum JV.i;simp;omega
    have hg:gn=0:=by rw[←hgn];unfold gnum;rw[hbn,hn];rfl
    subst hn hg
    clear hbn hgn hb
    go_enter Tryz.func65,Tryz.ntmps65
    go_wp2_with fail
    go_ret
    exact⟨rfl,by rw[Bool.or_true];exact(HB0.out.set_ 0 (.bool true)).alloc _,((Mod.refl [tb] w).setCell (p:=⟨tb,0,none⟩) (.inl (by simp)) _).alloc _⟩
   ·have hn:bn=false:=by rw[←hbn,JN.v];unfold bnum JV.i JV.k;simp;omega
    have hg:((gn:Nat):Int)=i:=by rw[←hgn];unfold gnum;rw[hbn,hn,JN.v];unfold JV.i;simp;omega
    have HG:=hide hg
    have q:IntKind.u64.wrap i=i:=IntWalk.u64_in _ (by omega)
    subst hn
    clear hbn hgn hb hg
    go_enter Tryz.func65,Tryz.ntmps65
    go_wp2_with fail
    go_ret
    exact⟨by rw[HG.out];rfl,by rw[Bool.or_false];exact HB.out,HM.out⟩
 ·have hn:bn=true:=by rw[←hbn,JN.v];unfold bnum JV.k;simp[hk]
  have hg:gn=0:=by rw[←hgn];unfold gnum;rw[hbn,hn];rfl
  have e3:(k !=3)=true:=by simpa using hk
  subst hn hg
  clear hbn hgn hb hk
  go_enter Tryz.func65,Tryz.ntmps65
  go_wp2_with fail
  go_ret
  exact⟨rfl,by rw[Bool.or_true];exact(HB0.out.set_ 0 (.bool true)).alloc _,((Mod.refl [tb] w).setCell (p:=⟨tb,0,none⟩) (.inl (by simp)) _).alloc _⟩
theorem twords_any (w:World) (tb:Nat) (b:Bool) (x:JN) (hb:Blk w tb 82 #[.bool b]):Calls Tryz.prog 66 #[.pointer (some ⟨tb,0,none⟩),.agg x.cells] w (TPost tb b w (.string x.v.t) (bwords x.v)):=by
 obtain⟨k,i,t,A,c,l,B,d,ks⟩:=x
 unfold JN.cells
 dsimp only
 have HB0:=hide hb
 have HB:=hide (hb.alloc (.cells #[.int .i64 k,.int .i64 i,.string t,.slice A l.length c,.slice B ks.length d] 43))
 have HM:=hide ((Mod.refl [tb] w).alloc (.cells #[.int .i64 k,.int .i64 i,.string t,.slice A l.length c,.slice B ks.length d] 43))
 have lt:=hb.lt
 have y0:(w.alloc (.cells #[.int .i64 k,.int .i64 i,.string t,.slice A l.length c,.slice B ks.length d] 43)).cell? ⟨tb,0,none⟩=some (.bool b):=HB.out.cell 0
 have u0:(w.alloc (.cells #[.int .i64 k,.int .i64 i,.string t,.slice A l.length c,.slice B ks.length d] 43)).frozen? ⟨tb,0,none⟩=false:=HB.out.frozen 0
 have hne:tb≠w.heap.size:=by omega
 rw[show(JN.mk k i t A c l B d ks).v=.mk k i t (JN.vs l) ks from by rw[JN.v]]
 have hbw:bwords (.mk k i t (JN.vs l) ks)= !decide (k=4):=rfl
 rw[hbw]
 clear hb hbw
 cases b with
 | true=>
  go_enter Tryz.func66,Tryz.ntmps66
  go_wp2_with fail
  go_ret
  exact⟨rfl,(HB0.out.set_ 0 (.bool true)).alloc _,((Mod.refl [tb] w).setCell (p:=⟨tb,0,none⟩) (.inl (by simp)) _).alloc _⟩
 | false=>
  by_cases hk:k=4
  ·obtain rfl:=hk
   go_enter Tryz.func66,Tryz.ntmps66
   go_wp2_with fail
   go_ret
   exact⟨rfl,(HB0.out.set_ 0 (.bool false)).alloc _,((Mod.refl [tb] w).setCell (p:=⟨tb,0,none⟩) (.inl (by simp)) _).alloc _⟩
  ·have e3:(k !=4)=true:=by simpa using hk
   have HD:Hid (decide (k=4)=false):=hide (decide_eq_false hk)
   clear hk
   go_enter Tryz.func66,Tryz.ntmps66
   go_wp2_with fail
   go_ret
   exact⟨rfl,by rw[HD.out];exact(HB0.out.set_ 0 (.bool true)).alloc _,((Mod.refl [tb] w).setCell (p:=⟨tb,0,none⟩) (.inl (by simp)) _).alloc _⟩
theorem ttruth_any (w:World) (tb:Nat) (b:Bool) (x:JN) (hb:Blk w tb 82 #[.bool b]):Calls Tryz.prog 99 #[.pointer (some ⟨tb,0,none⟩),.agg x.cells] w (TPost tb b w (.bool (gtruth x.v)) (btruth x.v)):=by
 obtain⟨k,i,t,A,c,l,B,d,ks⟩:=x
 unfold JN.cells
 dsimp only
 have HB0:=hide hb
 have HB:=hide (hb.alloc (.cells #[.int .i64 k,.int .i64 i,.string t,.slice A l.length c,.slice B ks.length d] 43))
 have HM:=hide ((Mod.refl [tb] w).alloc (.cells #[.int .i64 k,.int .i64 i,.string t,.slice A l.length c,.slice B ks.length d] 43))
 have lt:=hb.lt
 have y0:(w.alloc (.cells #[.int .i64 k,.int .i64 i,.string t,.slice A l.length c,.slice B ks.length d] 43)).cell? ⟨tb,0,none⟩=some (.bool b):=HB.out.cell 0
 have u0:(w.alloc (.cells #[.int .i64 k,.int .i64 i,.string t,.slice A l.length c,.slice B ks.length d] 43)).frozen? ⟨tb,0,none⟩=false:=HB.out.frozen 0
 have hne:tb≠w.heap.size:=by omega
 rw[show(JN.mk k i t A c l B d ks).v=.mk k i t (JN.vs l) ks from by rw[JN.v]]
 have hbw:btruth (.mk k i t (JN.vs l) ks)=(!decide (k=2) && !decide (k=1)):=rfl
 have hgw:gtruth (.mk k i t (JN.vs l) ks)=decide (k=2):=rfl
 rw[hbw,hgw]
 clear hb hbw hgw
 by_cases h2:k=2
 ·obtain rfl:=h2
  cases b with
  | true=>
   go_enter Tryz.func99,Tryz.ntmps99
   go_wp2_with fail
   go_ret
   exact⟨rfl,(HB0.out.set_ 0 (.bool true)).alloc _,((Mod.refl [tb] w).setCell (p:=⟨tb,0,none⟩) (.inl (by simp)) _).alloc _⟩
  | false=>
   go_enter Tryz.func99,Tryz.ntmps99
   go_wp2_with fail
   go_ret
   exact⟨rfl,(HB0.out.set_ 0 (.bool false)).alloc _,((Mod.refl [tb] w).setCell (p:=⟨tb,0,none⟩) (.inl (by simp)) _).alloc _⟩
 ·by_cases h1:k=1
  ·obtain rfl:=h1
   cases b with
   | true=>
    go_enter Tryz.func99,Tryz.ntmps99
    go_wp2_with fail
    go_ret
    exact⟨rfl,(HB0.out.set_ 0 (.bool true)).alloc _,((Mod.refl [tb] w).setCell (p:=⟨tb,0,none⟩) (.inl (by simp)) _).alloc _⟩
   | false=>
    go_enter Tryz.func99,Tryz.ntmps99
    go_wp2_with fail
    go_ret
    exact⟨rfl,(HB0.out.set_ 0 (.bool false)).alloc _,((Mod.refl [tb] w).setCell (p:=⟨tb,0,none⟩) (.inl (by simp)) _).alloc _⟩
  ·have e2:(k !=2)=true:=by simpa using h2
   have e1:(k !=1)=true:=by simpa using h1
   have f2:(k==2)=false:=by simpa using h2
   have D2:Hid (decide (k=2)=false):=hide (decide_eq_false h2)
   have D1:Hid (decide (k=1)=false):=hide (decide_eq_false h1)
   clear h1 h2
   cases b with
   | true=>
    go_enter Tryz.func99,Tryz.ntmps99
    go_wp2_with fail
    go_ret
    exact⟨by rw[D2.out];rfl,by rw[D2.out,D1.out];exact(HB0.out.set_ 0 (.bool true)).alloc _,((Mod.refl [tb] w).setCell (p:=⟨tb,0,none⟩) (.inl (by simp)) _).alloc _⟩
   | false=>
    go_enter Tryz.func99,Tryz.ntmps99
    go_wp2_with fail
    go_ret
    exact⟨by rw[D2.out];rfl,by rw[D2.out,D1.out];exact(HB0.out.set_ 0 (.bool true)).alloc _,((Mod.refl [tb] w).setCell (p:=⟨tb,0,none⟩) (.inl (by simp)) _).alloc _⟩
def RgPost (tb:Nat) (b:Bool) (w:World) (v:JV) (r:Ending) (w':World):Prop:=∃A c,r=.returned (.slice A (granges v).length c)∧ROwn w' w.heap.size A c (granges v)∧Blk w' tb 82 #[.bool (b || branges v)]∧Mod [tb] w w'
theorem rzinfo:(Tryz.prog.info? 77).map (fun i=>(i.zero,i.size))=some (some (.agg #[.int .u64 0,.int .u64 0]),2):=by kernel_rfl
theorem RowAt.range {w:World} {A:Option Addr} {l:List JN} (h:RowAt w A l) {j:Nat} {x:JN} (hj:l[j]? =some x):∃g o,A=some ⟨g,o,none⟩∧g < w.heap.size∧w.rangeAt g (o+j * 5) x.cells.toList:=by
 obtain⟨g,o,h1,h2,h3⟩:=h.at_ hj
 exact⟨g,o,h1,h2,fun i u hu=>h3 i u (by simpa using hu)⟩
theorem JIn.row {w:World} {k i:Int} {t:ByteArray} {A B:Option Addr} {c d:Nat} {l:List JN} {ks:List ByteArray} (h:JIn w (.mk k i t A c l B d ks)):RowAt w A l:=by rw[JIn]at h;exact h.2.2.1
theorem JIn.ins {w:World} {k i:Int} {t:ByteArray} {A B:Option Addr} {c d:Nat} {l:List JN} {ks:List ByteArray} (h:JIn w (.mk k i t A c l B d ks)):JIns w l:=by rw[JIn]at h;exact h.2.2.2
theorem JIn.len {w:World} {k i:Int} {t:ByteArray} {A B:Option Addr} {c d:Nat} {l:List JN} {ks:List ByteArray} (h:JIn w (.mk k i t A c l B d ks)):l.length≤140737488355328∧ks.length≤140737488355328:=by rw[JIn]at h;exact⟨h.1.1,h.1.2.1⟩
theorem row_cls {S:World→Prop} {W:World} {g o:Nat} {cs:List Value} (h:W.rangeAt g o cs) (hg:g < W.heap.size) (hall:∀v,S v→Mod [] W v):∀v,Cls S v→v.rangeAt g o cs:=by
 rintro _ ⟨i,rfl⟩ j u hu
 exact((hall i.w i.ok).cell (p:=⟨g,o+j,none⟩) hg (by simp)).trans (h j u hu)
theorem ROwn.app {w:World} {B:Nat} {A:Option Addr} {c:Nat} {l:List (Nat×Nat)} (h:ROwn w B A c l) (hB:B≤w.heap.size) (hn:l.length≤100000000) (r:Nat×Nat) (g:Nat) (hg:Blk w g 77 (rcells r).toArray):
  ∃A' c' w',(Builtin.append_ #[34,34] 34 #[.slice A l.length c,.slice (some ⟨g,0,none⟩) 1 1]).run Tryz.prog w=.ok (.slice A' (l.length+1) c') w'∧ROwn w' B A' c' (l++ [r])∧Mod (Value.slice A l.length c).ownBlock.toList w w':=by
 obtain⟨A',c',w',hrun,hown,hm,_⟩:=app_one (P:=Tryz.prog) Tryz.underlying34 rangeInfo rfl w 34 B _ l.length _ h hB (rcells r) rfl (by simp[rcells,Value.oneCell']) (by omega) (by omega) g (fun j u hu=>by rw[hg.cell j,List.getElem?_toArray];exact hu)
 refine⟨A',c',w',hrun,?_,hm⟩
 unfold ROwn
 have e:(l++ [r]).length=l.length+1:=by simp
 have e2: [r].flatMap rcells=rcells r:=by simp
 rw[e,List.flatMap_append,e2]
 exact hown
theorem bad_of {l:List JN} {j:Nat} {y:JN} (hy:l[j]? =some y) (h:bpair y.v=true):bshape (JN.vs l)=true∧bpairs (JN.vs l)=true:=by
 have hm:y.v∈JN.vs l:=List.mem_of_getElem? (i:=j) (by rw[JN.vs_at,hy];rfl)
 exact⟨List.any_eq_true.2 ⟨_,hm,h⟩,List.any_eq_true.2 ⟨_,hm,by rw[h];rfl⟩⟩
theorem vs_snoc {l:List JN} {k:Nat} {y:JN} (h:l[k]? =some y):JN.vs (l.take (k+1))=JN.vs (l.take k)++ [y.v]:=by
 rw[take_snoc_of h,JN.vs_app,JN.vs,JN.vs]
theorem tranges_any (W w:World) (tb:Nat) (b:Bool) (x:JN) (hx:JIn W x) (hW:Mod [] W w) (htb:W.heap.size≤tb) (hb:Blk w tb 82 #[.bool b]) (hs:x.v.l.length≤100000000):Calls Tryz.prog 100 #[.pointer (some ⟨tb,0,none⟩),.agg x.cells] w (RgPost tb b w x.v):=by
 obtain⟨k,i,t,A,c,l,B,d,ks⟩:=x
 have hv:(JN.mk k i t A c l B d ks).v=.mk k i t (JN.vs l) ks:=by rw[JN.v]
 rw[hv]at hs ⊢
 have hl:l.length≤100000000:=by rw[←JN.vs_len];exact hs
 have HRw:=hide hx.row
 have HIs:=hide hx.ins
 have HW:=hide hW
 have HTb:=hide htb
 unfold JN.cells
 dsimp only
 obtain⟨vv,hvv⟩:∃vv:JV,JV.mk k i t (JN.vs l) ks=vv:=⟨_,rfl⟩
 have HVl:Hid (vv.l=JN.vs l):=hide (by rw[←hvv];rfl)
 obtain⟨nk,hnk⟩:∃nk,(k !=5)=nk:=⟨_,rfl⟩
 have HVk:Hid (branges vv=(nk || bpairs (JN.vs l))):=hide (by
  rw[←hvv,←hnk]
  unfold branges
  show(!decide (k=5) || bpairs (JN.vs l))=_
  congr 1)
 rw[hvv]
 have HB1:=hide (hb.alloc (.cells #[.int .i64 k,.int .i64 i,.string t,.slice A l.length c,.slice B ks.length d] 43))
 have HM1:=hide ((Mod.refl [tb] w).alloc (.cells #[.int .i64 k,.int .i64 i,.string t,.slice A l.length c,.slice B ks.length d] 43))
 have HX1:=hide (Blk.new w 43 #[.int .i64 k,.int .i64 i,.string t,.slice A l.length c,.slice B ks.length d])
 have lt:=hb.lt
 have y0:(w.alloc (.cells #[.int .i64 k,.int .i64 i,.string t,.slice A l.length c,.slice B ks.length d] 43)).cell? ⟨tb,0,none⟩=some (.bool b):=HB1.out.cell 0
 have u0:(w.alloc (.cells #[.int .i64 k,.int .i64 i,.string t,.slice A l.length c,.slice B ks.length d] 43)).frozen? ⟨tb,0,none⟩=false:=HB1.out.frozen 0
 have hne:tb≠w.heap.size:=by omega
 have HB0:=hide hb
 clear hb hx hW htb hs hv hvv
 obtain⟨n,hn⟩:∃n,l.length=n:=⟨_,rfl⟩
 have HN:=hide hn
 rw[hn]at hl
 clear hn
 go_enter Tryz.func100,Tryz.ntmps100
 go_upto_region 1 with fail
 go_cut [] (fun wx=>Hid (Blk wx tb 82 #[.bool (b || nk)])∧Hid (Mod [tb] w wx)∧Hid (Blk wx w.heap.size 43 #[.int .i64 k,.int .i64 i,.string t,.slice A l.length c,.slice B ks.length d]))
 case first=>
  have fin:Hid (Mod [tb] w ((w.setCell ⟨tb,0,none⟩ (.bool (b || nk))).alloc (.cells #[.int .i64 k,.int .i64 i,.string t,.slice A l.length c,.slice B ks.length d] 43))∧Blk ((w.setCell ⟨tb,0,none⟩ (.bool (b || nk))).alloc (.cells #[.int .i64 k,.int .i64 i,.string t,.slice A l.length c,.slice B ks.length d] 43)) tb 82 #[.bool (b || nk)]∧Blk ((w.setCell ⟨tb,0,none⟩ (.bool (b || nk))).alloc (.cells #[.int .i64 k,.int .i64 i,.string t,.slice A l.length c,.slice B ks.length d] 43)) w.heap.size 43 #[.int .i64 k,.int .i64 i,.string t,.slice A l.length c,.slice B ks.length d]):=hide ⟨((Mod.refl [tb] w).setCell (p:=⟨tb,0,none⟩) (.inl (by simp)) _).alloc _,(HB0.out.set_ 0 (.bool (b || nk))).alloc _,by
   have:=Blk.new (w.setCell ⟨tb,0,none⟩ (.bool (b || nk))) 43 #[.int .i64 k,.int .i64 i,.string t,.slice A l.length c,.slice B ks.length d]
   have e:(w.setCell ⟨tb,0,none⟩ (.bool (b || nk))).heap.size=w.heap.size:=by simp[World.setCell]
   rw[e]at this
   exact this⟩
  cases b with
  | true=>
   go_wp2_with fail
   go_meet
   exact⟨hide fin.out.2.1,hide fin.out.1,hide fin.out.2.2⟩
  | false=>
   go_wp2_with fail
   go_meet
   exact⟨hide fin.out.2.1,hide fin.out.1,hide fin.out.2.2⟩
 case rest=>
  obtain⟨hbt,hm1,hxx⟩:=hcut
  clear HB1 HM1 HX1 y0 u0 HB0 hnk
  obtain⟨b1,hb1⟩:∃b1,(b || nk)=b1:=⟨_,rfl⟩
  have HBe:Hid ((b || branges vv)=(b1 || bpairs (JN.vs l))):=hide (by rw[HVk.out,←hb1,Bool.or_assoc])
  rw[hb1]at hbt
  clear hb1
  have y3:wc.cell? ⟨w.heap.size,3,none⟩=some (.slice A n c):=(hxx.out.cell 3).trans (by rw[←HN.out];rfl)
  go_wp2_with fail
  clear y3 hxx
  go_loopw [5,23] (fun lv iv wr=>∃(j:Nat) (A':Option Addr) (c':Nat),iv=.int .i64 (j:Int)∧j≤n∧lv=.slice A' j c'∧Hid (ROwn wr w.heap.size A' c' ((JN.vs (l.take j)).map gpair))∧Hid (Blk wr tb 82 #[.bool (b1 || bpairs (JN.vs (l.take j)))])∧Hid (bshape (JN.vs (l.take j))=false)∧Hid (Mod [tb] w wr)) (fun _ iv _=>n - (intOf iv).toNat)
  case atStart=>exact⟨0,none,0,rfl,Nat.zero_le _,rfl,hide (by rw[List.take_zero,JN.vs];exact ROwn.nil _ _),hide (by rw[List.take_zero,JN.vs,show bpairs []=false from rfl,Bool.or_false];exact hbt.out),hide (by rw[List.take_zero,JN.vs];rfl),hm1⟩
  case round=>
   clear hbt hm1
   obtain⟨j,A',c',rfl,hj,rfl,ho,hbt,hsh,hm⟩:=hrel
   by_cases hlt:j < n
   ·obtain⟨y,hy⟩:∃y,l[j]? =some y:=⟨_,List.getElem?_eq_getElem (by have:=HN.out;omega)⟩
    have hWr:Mod [] W wr:=HW.out.trans hm.out (fun x hx=> .inr (by simp at hx;rw[hx];exact HTb.out))
    have hjw:=HIs.out.at_ hy
    obtain⟨g,o,rfl,hg,hrg⟩:=(HRw.out.new hWr).range hy
    have HRg:=hide hrg
    have HY:=hide hy
    have hlj:((JN.vs (l.take j)).map gpair).length=j:=by rw[List.length_map,JN.vs_len,List.length_take];have:=HN.out;omega
    have HLj:=hide hlj
    have HBad:=hide (fun h=>bad_of (l:=l) hy h)
    have HSn:=hide (vs_snoc hy)
    have htl:=hbt.out.lt
    have HTl:=hide htl
    obtain⟨yk,yi,yt,yA,yc,yl,yB,yd,yks⟩:=y
    have HYr:=hide hjw.row
    have HYv:Hid ((JN.mk yk yi yt yA yc yl yB yd yks).v=.mk yk yi yt (JN.vs yl) yks):=hide (by rw[JN.v])
    clear hy hWr hjw hrg hlj htl
    go_upto_region 6 with(first | (refine wpList_load_mid rfl 43 _ rfl g (o+j * 5) rfl (JN.mk yk yi yt yA yc yl yB yd yks).cells.toList _ HRg.out rfl rfl (by kernel_rfl) ?_) | (refine wpList_store_open rfl 43 _ _ rfl rfl _ #[.int .i64 yk,.int .i64 yi,.string yt,.slice yA yl.length yc,.slice yB yks.length yd] rfl rfl (by kernel_rfl) rfl (by kernel_rfl) ?_;intro w3 m3 b3 s3;have HM3:=hide (hm.out.trans m3 (by simp));have HB3:=hide (m3.blk hbt.out (by simp));have HO3:=hide (ho.out.mod m3 (by simp));have HY3:=hide b3;clear m3 b3 s3))
    obtain⟨xb,hxb⟩:∃xb,wr.heap.size=xb:=⟨_,rfl⟩
    have hxb1:tb < xb:=by rw[←hxb];exact HTl.out
    have hxb2:∀q o',A'=some ⟨q,o',none⟩→q < xb:=fun q o' e=>by
     subst e
     have:=ho.out.lt q rfl
     omega
    have HXb:=hide hxb1
    have HXq:=hide hxb2
    rw[hxb]at HY3 ⊢
    clear hxb hxb1 hxb2 ho hbt hm HRg
    have y0:w3.cell? ⟨xb,0,none⟩=some (.int .i64 yk):=HY3.out.cell 0
    have y3:w3.cell? ⟨xb,3,none⟩=some (.slice yA yl.length yc):=HY3.out.cell 3
    have z0:w3.cell? ⟨tb,0,none⟩=some (.bool (b1 || bpairs (JN.vs (l.take j)))):=HB3.out.cell 0
    have zf:w3.frozen? ⟨tb,0,none⟩=false:=HB3.out.frozen 0
    have zl:=HB3.out.lt
    by_cases h5:yk=5
    ·obtain rfl:=h5
     by_cases h2:yl.length=2
     ·clear z0 zf zl
      rw[h2]at y3
      obtain⟨p,q,hpq⟩:∃p q,yl= [p,q]:=by
       match yl,h2 with
       | [p,q],_=>exact⟨p,q,rfl⟩
      subst hpq
      clear h2
      obtain⟨g2,o2,hyA,hg2,hrp⟩:=HYr.out.range (j:=0) (x:=p) rfl
      obtain⟨g2',o2',hyA',_,hrq⟩:=HYr.out.range (j:=1) (x:=q) rfl
      subst hyA
      cases hyA'
      obtain⟨F,hF⟩:∃F,tb ::(Value.slice A' j c').ownBlock.toList=F:=⟨_,rfl⟩
      have hob:∀u∈F,u < xb∧w.heap.size≤u∨u=tb:=fun u hu=>by
       rw[←hF,List.mem_cons]at hu
       rcases hu with rfl | hu
       ·exact .inr rfl
       ·rw[Option.mem_toList]at hu
        have:=HO3.out.lt u (by rw[HLj.out];exact hu)
        cases A' with
        | none=>cases hu
        | some a=>
         have hu:a.block=u:=Option.some.inj hu
         rcases HO3.out.2 with⟨h0,_⟩ | ⟨g9,_,_,hv9,_⟩
         ·cases h0
         ·cases hv9
          have h8:=HXq.out g9 0 rfl
          exact .inl ⟨by rw[←hu];exact h8,this.1⟩
      have hFW:∀u∈F,W.heap.size≤u:=fun u hu=>by
       rcases hob u hu with h | h
       ·have:=HW.out.size;omega
       ·rw[h];exact HTb.out
      have hxF:xb∉F:=fun hu=>by
       rcases hob xb hu with h | h
       ·omega
       ·have:=HXb.out;omega
      have hWv:∀v,Mod F w3 v→Mod [] W v:=fun v m=>((HW.out.trans HM3.out (fun x hx=> .inr (by simp at hx;rw[hx];exact HTb.out))).trans m (fun x hx=> .inr (hFW x hx)))
      have HRp:=hide (row_cls (S:=Mod F w3) hrp hg2 hWv)
      have HRq:=hide (row_cls (S:=Mod F w3) hrq hg2 hWv)
      have y3':∀i:Fam (Mod F w3),i.w.cell? ⟨xb,3,none⟩=some (.slice (some ⟨g2,o2,none⟩) 2 yc):=fam_cell0 y3 hxF
      have HFt:Hid (∀u∈ [tb],u∈F):=hide (fun u hu=>by simp at hu;rw[hu,←hF];simp)
      have HFe:=hide hF
      have HFo:=hide hob
      have HFw:=hide hFW
      clear hrp hrq hF hob hxF hWv hFW
      go_upto_region 9 with fail
      clear y3 y0
      refine wp_region_plan (Mod F w3) [] [([0,1,2,3,4,5,7,8,9,10,11],6),([],12),([13],14),([],15)] [16] (by kernel_rfl) (by kernel_rfl) (fun _ _ _ _ _ h=>h) ((Mod.refl _ w3).drew) ?_
      show wpQuiet _ _ _ _ _ _
      simp only[gd]
      repeat (first | (refine wpQuiet_row rfl 43 _ rfl g2 (o2+0 * 5) rfl p.cells.toList _ HRp.out rfl rfl (by rw[Array.length_toList,p.cells_size];kernel_rfl) ?_;simp only[pu]) | (refine wpQuiet_row rfl 43 _ rfl g2 (o2+1 * 5) rfl q.cells.toList _ HRq.out rfl rfl (by rw[Array.length_toList,q.cells_size];kernel_rfl) ?_;simp only[pu]) | go_big_quiet_step (fail))
      refine wpQuiet_nil ?_
      clear y3'
      go_wp2_with fail
      refine(tnum_any _ tb _ p (show Blk w3.drew tb _ _ from HB3.out)).mono ?_
      rintro e0 w4 ⟨rfl,hb4,m4⟩
      have hc4:Mod F w3 w4:=(Mod.refl F w3).drew.trans m4 (fun x hx=> .inl (HFt.out x hx))
      have HC4:=hide ((Mod.refl [tb] w3).drew.trans m4 (fun x hx=> .inl hx))
      have HB4:=hide hb4
      clear m4 hb4
      go_wp2_with fail
      refine Ph.on (fun _=>hc4) ?_
      show wpQuiet _ _ _ _ _ _
      simp only[gd]
      refine wpQuiet_nil ?_
      go_wp2_with fail
      refine(tnum_any _ tb _ q HB4.out).mono ?_
      rintro e0 w5 ⟨rfl,hb5,m5⟩
      have hc5:Mod F w3 w5:=hc4.trans m5 (fun x hx=> .inl (HFt.out x hx))
      have HC5:=hide (HC4.out.trans m5 (fun x hx=> .inl hx))
      have HB5:=hide hb5
      clear m5 hb5 hc4
      go_wp2_with fail
      refine Ph.on (fun _=>hc5) ?_
      show wpQuiet _ _ _ _ _ _
      simp only[gd]
      repeat (go_big_quiet_step (fail))
      refine wpQuiet_nil ?_
      go_wp2_with (refine wpList_laid rfl 34 77 1 _ rfl _ rfl Tryz.underlying34 (.agg #[.int .u64 0,.int .u64 0]) 2 rzinfo (by decide) (by decide) [(0,.agg #[.int .u64 (gnum p.v:Nat),.int .u64 (gnum q.v:Nat)])] rfl (rcells (gnum p.v,gnum q.v)).toArray (by kernel_rfl) ?_;intro w6 m6 b6 s6;have HC6:=hide (HC5.out.trans m6 (by simp));have HB6:=hide (m6.blk HB5.out (by simp));have HN6:=hide b6;have hc6:Mod F w3 w6:=hc5.trans m6 (by simp);clear m6 b6 s6)
      refine Ph.on (fun _=>hc6) ?_
      clear hc5
      show wpQuiet _ _ _ _ _ _
      simp only[gd]
      refine wpQuiet_nil ?_
      have hz6:=HC6.out.size
      have hoF:∀g' o',A'=some ⟨g',o',none⟩→g'∉ [tb]:=fun g' o' e hg'=>by
       have h1:=HO3.out.ne HB3.out (by decide) g' o' e
       simp at hg'
       exact h1 hg'
      obtain⟨A2,c2,w7,hrun,hown,hm7⟩:=(HO3.out.mod HC6.out hoF).app (by have:=HM3.out.size;omega) (by rw[HLj.out];omega) (gnum p.v,gnum q.v) _ HN6.out
      rw[HLj.out]at hrun hm7
      have hoF2:tb∉(Value.slice A' j c').ownBlock.toList:=fun hu=>by
       rw[Option.mem_toList]at hu
       cases A' with
       | none=>cases hu
       | some a=>
        have hu:a.block=tb:=Option.some.inj hu
        rcases HO3.out.2 with⟨h0,_⟩ | ⟨g9,_,_,hv9,_⟩
        ·cases h0
        ·cases hv9
         exact hoF g9 0 rfl (by simp;exact hu)
      have HRun:=hide hrun
      have HO7:=hide hown
      have HB7:=hide (hm7.blk HB6.out hoF2)
      have hc7:Mod F w3 w7:=hc6.trans hm7 (fun x hx=> .inl (by rw[←HFe.out];exact List.mem_cons_of_mem _ hx))
      clear hrun hown hc6 hz6 hoF hoF2
      go_wp2_with (at_builtin;refine Lib.wpList_append_run _ rfl (.tmp 39) (.tmp 53) 34 34 rfl (.slice A' j c') (.slice (some ⟨w5.heap.size,0,none⟩) 1 1) rfl rfl _ w7 HRun.out ?_)
      refine Ph.on (fun _=>hc7) ?_
      show wpQuiet _ _ _ _ _ _
      simp only[gd]
      repeat (go_big_quiet_step (fail))
      refine wpQuiet_nil ?_
      have hM7:Mod [tb] w w7:=HM3.out.trans hc7 (fun x hx=>by
       rcases HFo.out x hx with h | h
       ·exact .inr h.2
       ·exact .inl (by simp[h]))
      have HM7:=hide hM7
      have HBp:Hid (bpair (.mk 5 yi yt (JN.vs [p,q]) yks)=false):=hide rfl
      have HGp:Hid (gpair (.mk 5 yi yt (JN.vs [p,q]) yks)=(gnum p.v,gnum q.v)):=hide (by unfold gpair jat JV.l;rw[JN.vs,JN.vs,JN.vs];rfl)
      have HBn:Hid (bpairs [.mk 5 yi yt (JN.vs [p,q]) yks]=(bnum p.v || bnum q.v)):=hide (by unfold bpairs jat JV.l bpair JV.k;rw[JN.vs,JN.vs,JN.vs];simp[JV.l,JV.k])
      clear hc7 hm7 hM7
      go_wp2_with fail
      go_roundw
      case rel=>
       refine⟨j+1,A2,c2,by go_num,by omega,rfl,hide ?_,hide ?_,hide ?_,HM7⟩
       ·rw[HSn.out,HYv.out,List.map_append,List.map_cons,List.map_nil,HGp.out]
        exact HO7.out
       ·rw[HSn.out,HYv.out]
        have e:bpairs (JN.vs (l.take j)++ [.mk 5 yi yt (JN.vs [p,q]) yks])=(bpairs (JN.vs (l.take j)) || (bnum p.v || bnum q.v)):=by rw[←HBn.out];unfold bpairs;rw[List.any_append]
        rw[e]
        have:=HB7.out
        rw[Bool.or_assoc,Bool.or_assoc]at this
        exact this
       ·rw[HSn.out,HYv.out]
        unfold bshape
        rw[List.any_append]
        have:=hsh.out
        unfold bshape at this
        rw[this]
        simp[HBp.out]
      case measure=>simp[intOf];omega
     ·have HN2:=hide (HBad.out (by rw[HYv.out];unfold bpair JV.k JV.l;simp[JN.vs_len,h2]))
      have e2:((yl.length:Int) !=2)=true:=by simp;omega
      have e2':(yl.length !=2)=true:=by simpa using h2
      clear h2
      go_wp2_with fail
      go_ret
      have hgr:granges vv= []:=by unfold granges;rw[HVl.out,HN2.out.1];rfl
      refine⟨none,0,by rw[hgr];rfl,by rw[hgr];exact ROwn.nil _ _,?_,HM3.out.setCell (p:=⟨tb,0,none⟩) (.inl (by simp)) _⟩
      rw[HBe.out,HN2.out.2,Bool.or_true]
      exact HB3.out.set_ 0 (.bool true)
    ·have HN2:=hide (HBad.out (by rw[HYv.out];unfold bpair JV.k;simp[h5]))
     have e5:(yk !=5)=true:=by simpa using h5
     clear h5
     go_wp2_with fail
     go_ret
     have hgr:granges vv= []:=by unfold granges;rw[HVl.out,HN2.out.1];rfl
     refine⟨none,0,by rw[hgr];rfl,by rw[hgr];exact ROwn.nil _ _,?_,HM3.out.setCell (p:=⟨tb,0,none⟩) (.inl (by simp)) _⟩
     rw[HBe.out,HN2.out.2,Bool.or_true]
     exact HB3.out.set_ 0 (.bool true)
   ·have hjn:j=n:=by omega
    subst hjn
    have ht:l.take j=l:=List.take_of_length_le (by rw[HN.out];exact Nat.le_refl _)
    have ho2:=ho.out
    have hb2:=hbt.out
    have hs2:=hsh.out
    rw[ht]at ho2 hb2 hs2
    have hgr:granges vv=(JN.vs l).map gpair:=by unfold granges;rw[HVl.out,hs2];rfl
    have HGr:=hide hgr
    have HO2:=hide ho2
    have HB2:=hide hb2
    clear hlt ho2 hb2 hs2 hgr ht
    go_wp2_with fail
    go_ret
    refine⟨A',c',?_,by rw[HGr.out];exact HO2.out,by rw[HBe.out];exact HB2.out,hm.out⟩
    rw[HGr.out,List.length_map,JN.vs_len,HN.out]
    rfl
def jlN (A:Option Addr) (c:Nat) (l:List JN):JN:=.mk 5 0 ⟨#[]⟩ A c l none 0 []
def jrN (g:Nat) (r:Nat×Nat):JN:=jlN (some ⟨g,0,none⟩) 2 [jnN r.1,jnN r.2]
theorem jnN_foot (n:Nat):JFoot (jnN n)= []:=by unfold jnN;rw[JFoot,JFoots];rfl
theorem jtN_foot (s:ByteArray):JFoot (jtN s)= []:=by unfold jtN;rw[JFoot,JFoots];rfl
theorem jbN_foot (b:Bool):JFoot (jbN b)= []:=by unfold jbN;rw[JFoot,JFoots];rfl
theorem jrN_v (g:Nat) (r:Nat×Nat):(jrN g r).v=jr r:=by unfold jrN jlN jr;rw[JN.v,JN.vs,JN.vs,JN.vs,jnN_v,jnN_v]
theorem jrN_foot (g:Nat) (r:Nat×Nat):∀k∈JFoot (jrN g r),k=g:=by
 unfold jrN jlN
 rw[JFoot,JFoots,JFoots,JFoots,jnN_foot,jnN_foot]
 intro k hk
 simpa using hk
theorem jrN_in {w:World} {g:Nat} {r:Nat×Nat} (h:Blk w g 43 (jlcells [jnN r.1,jnN r.2]).toArray):JIn w (jrN g r):=by
 unfold jrN jlN
 rw[JIn]
 refine⟨⟨by show 2≤jmax;unfold jmax;omega,Nat.zero_le _,Nat.zero_le _⟩,.inl rfl,.inr ⟨g,0,rfl,Blk.lt h,fun j x hx i u hu=> ?_⟩,JIns.of fun x hx=> ?_⟩
 ·rw[Nat.zero_add,h.cell,List.getElem?_toArray]
  exact lcells_at _ j x hx i u hu
 ·simp only[List.mem_cons,List.not_mem_nil,or_false]at hx
  rcases hx with rfl | rfl <;> exact JIn.plain _ _ _ _
def zval:Value:=.agg #[.int .i64 0,.int .i64 0,.string ⟨#[]⟩,.slice none 0 0,.slice none 0 0]
theorem zinfo:(Tryz.prog.info? 43).map (fun i=>(i.zero,i.size))=some (some zval,5):=by kernel_rfl
theorem take_map_snoc {α β:Type} {l:List α} {j:Nat} {x:α} (g:α→β) (h:l[j]? =some x):(l.take (j+1)).map g=(l.take j).map g++ [g x]:=by rw[take_snoc_of h];simp
theorem frameValue_any (w:World) (A:Option Addr) (c:Nat) (f:Fr) (hr:Rngs w A f.list.length f.list) (hf:FrOk f):
  Calls Tryz.prog 60 #[fval A f.list.length c f] w fun r w'=>∃(g gk:Nat) (l:JN),r=.returned (.agg (JN.mk 6 0 ⟨#[]⟩ (some ⟨g,0,none⟩) 8 [jnN f.kind,jnN f.a,jnN f.b,jnN f.c,jbN f.fin,jtN f.data,jtN f.more,l] (some ⟨gk,0,none⟩) 8 fkeys).cells)∧
   Blk w' g 43 (jlcells [jnN f.kind,jnN f.a,jnN f.b,jnN f.c,jbN f.fin,jtN f.data,jtN f.more,l]).toArray∧Blk w' gk 9 (fkeys.map Value.string).toArray∧l.v=.mk 5 0 ⟨#[]⟩ (f.list.map jr) []∧JIn w' l∧w.heap.size≤g∧w.heap.size≤gk∧(∀k∈JFoot l,w.heap.size≤k∧k < w'.heap.size)∧Mod [] w w':=by
 have hll:=hf.len
 have HF:=hide hf
 have HB0:=hide ((Blk.new w 36 (fcs A f.list.length c f)).alloc (.cells zcs 43))
 have hb1:=Blk.new (w.alloc (.cells (fcs A f.list.length c f) 36)) 43 zcs
 rw[World.size_alloc]at hb1
 have HB1:=hide hb1
 have HM1:=hide (((Mod.refl [] w).alloc (.cells (fcs A f.list.length c f) 36)).alloc (.cells zcs 43))
 have HRg:=hide hr
 clear hb1 hr hf
 obtain⟨n,hn⟩:∃n,f.list.length=n:=⟨_,rfl⟩
 have HN:=hide hn
 unfold fval
 unfold fcs at HB0 HB1 HM1 ⊢
 unfold zcs at HB0 HB1 HM1
 rw[hn]at HB0 HB1 HM1 hll ⊢
 clear hn
 go_enter Tryz.func60,Tryz.ntmps60
 go_upto_region 2 with(refine wpList_store_open rfl 43 _ _ rfl rfl _ (jlN none 0 []).cells (by simp only[World.size_alloc];rfl) rfl (by kernel_rfl) rfl (by kernel_rfl) ?_;intro w1 m1 b1 s1;have HMa:=hide (HM1.out.trans m1 (by simp));have HBF:=hide (m1.blk HB0.out (by simp));have HBR:=hide (m1.blk HB1.out (by simp));have HBL:=hide b1;have hz1:=s1;clear m1 b1 s1)
 simp only[World.size_alloc]at HBL hz1
 obtain⟨lb,hlb⟩:∃lb,w.heap.size+1+1=lb:=⟨_,rfl⟩
 rw[hlb]at HBL ⊢
 have HLb:Hid (lb=w.heap.size+2):=hide hlb.symm
 clear hlb
 clear HB0 HB1 HM1
 have y7:w1.cell? ⟨w.heap.size,7,none⟩=some (.slice A n c):=HBF.out.cell 7
 go_wp2_with fail
 clear y7
 obtain⟨B,hB⟩:∃B,w1.heap.size=B:=⟨_,rfl⟩
 have HBz:=hide hB
 have HB3:Hid (B=w.heap.size+3):=hide (by rw[←hB,hz1])
 clear hB hz1
 go_loopw [10] (fun i wr=>∃(k:Nat) (A':Option Addr) (c':Nat) (l:List JN),i=.int .i64 (k:Int)∧k≤n∧l.length=k∧Hid (JN.vs l=(f.list.take k).map jr)∧Hid (Blk wr lb 43 (jlN A' c' l).cells)∧Hid (VLs wr B A' c' l)∧Hid (Blk wr w.heap.size 36 #[.int .u64 (f.kind:Nat),.int .u64 (f.a:Nat),.int .u64 (f.b:Nat),.int .u64 (f.c:Nat),.bool f.fin,.string f.data,.string f.more,.slice A n c])∧Hid (Blk wr (w.heap.size+1) 43 #[.int .i64 0,.int .i64 0,.string ⟨#[]⟩,.slice none 0 0,.slice none 0 0])∧Hid (Mod [] w wr)∧Hid (B≤wr.heap.size)) (fun i _=>n - (intOf i).toNat)
 case atStart=>exact⟨0,none,0,[],rfl,Nat.zero_le _,rfl,hide (by rw[List.take_zero];rfl),HBL,hide (VLs.nil _ _),HBF,HBR,HMa,hide (Nat.le_of_eq HBz.out.symm)⟩
 case round=>
  clear HBL HBF HBR HMa HBz
  obtain⟨k,A',c',l,rfl,hk,hlk,hv,hbl,hvl,hbf,hbr,hm,hbz⟩:=hrel
  by_cases hlt:k < n
  ·skip
   obtain⟨g,o,hjl,rfl,hgl,c0,c1⟩:=(HRg.out.new hm.out).at_ (i:=k) (by have:=HN.out;omega)
   have hx:f.list[k]? =some f.list[k]:=List.getElem?_eq_getElem hjl
   obtain⟨r,hr⟩:∃r,f.list[k]=r:=⟨_,rfl⟩
   rw[hr]at hx c0 c1
   obtain⟨lo,hi⟩:=r
   have hrl:=HF.out.list (lo,hi) (List.mem_of_getElem? hx)
   have HX:=hide hx
   clear hx hr
   dsimp only at c0 c1 hrl
   have HL1:=hide hrl.1
   have HL2:=hide hrl.2
   clear hrl
   go_upto_region 5 with fail
   clear c0 c1
   have hm3:=(Mod.refl [] wr).alloc (.cells #[.int .u64 (lo:Nat),.int .u64 (hi:Nat)] 77)
   have hb3:=Blk.new wr 77 #[.int .u64 (lo:Nat),.int .u64 (hi:Nat)]
   obtain⟨rb,hrb⟩:∃rb,wr.heap.size=rb:=⟨_,rfl⟩
   obtain⟨w3,hw3⟩:∃w3,wr.alloc (.cells #[.int .u64 (lo:Nat),.int .u64 (hi:Nat)] 77)=w3:=⟨_,rfl⟩
   have hz3:w3.heap.size=rb+1:=by rw[←hw3,←hrb,World.size_alloc]
   rw[hw3]at hm3 hb3
   rw[hw3]
   rw[hrb]at hb3
   rw[hrb]
   have HMw:=hide hm3
   have HBl:=hide (hm3.blk hbl.out (by simp))
   have HVl:=hide (hvl.out.mod hm3 (by simp))
   have HBf:=hide (hm3.blk hbf.out (by simp))
   have HBr:=hide (hm3.blk hbr.out (by simp))
   have HM3:=hide (hm.out.trans hm3 (by simp))
   have HBz3:=hide (Nat.le_trans hbz.out hm3.size)
   obtain⟨F,hF⟩:∃F,(Value.slice A' l.length c').ownBlock.toList=F:=⟨_,rfl⟩
   have HFe:=hide hF
   have hob:∀q∈F,B≤q∧q < rb:=fun q hq=>by
    rw[←hF,Option.mem_toList]at hq
    have:=hvl.out.lo.lt q hq
    omega
   have HZ3:=hide hz3
   have HOb:=hide hob
   have HLk:=hide hlk
   clear hF
   have y3:∀i:Fam (Mod F w3),i.w.cell? ⟨lb,3,none⟩=some (.slice A' k c'):=fam_cell0 ((HBl.out.cell 3).trans (by rw[←hlk];rfl)) (fun hq=>by have h1:B≤lb∧lb < rb:=hob _ hq;have:=HB3.out;have:=HLb.out;omega)
   have z0:∀i:Fam (Mod F w3),i.w.cell? ⟨rb,0,none⟩=some (.int .u64 (lo:Nat)):=fam_cell0 (hb3.cell 0) (fun hq=>by have h1:B≤rb∧rb < rb:=hob _ hq;omega)
   have z1:∀i:Fam (Mod F w3),i.w.cell? ⟨rb,1,none⟩=some (.int .u64 (hi:Nat)):=fam_cell0 (hb3.cell 1) (fun hq=>by have h1:B≤rb∧rb < rb:=hob _ hq;omega)
   clear hlk hw3 hrb hm3 hb3 hob hbl hvl hbf hbr hm hbz hz3
   refine wp_region_plan (Mod F w3) [13] [([0,1,2,3,5,6],4),([],7),([],8),([9],10),([],11),([12],13)] [] (by kernel_rfl) (by kernel_rfl) (fun _ _ _ _ _ h=>h) ((Mod.refl _ w3).drew) ?_
   show wpQuiet _ _ _ _ _ _
   simp only[gd]
   repeat (go_big_quiet_step (fail))
   refine wpQuiet_nil ?_
   clear y3 z0 z1
   go_wp2_with fail
   refine(enumber_any _ lo HL1.out).mono ?_
   rintro e0 w4 ⟨rfl,m4⟩
   have hc4:=(Mod.refl [] w3).drew.trans m4 (by simp)
   have HC4:=hide hc4
   clear m4
   go_wp2_with fail
   refine Ph.on (fun _=>hc4.mono (by simp)) ?_
   clear hc4
   show wpQuiet _ _ _ _ _ _
   simp only[gd]
   refine wpQuiet_nil ?_
   go_wp2_with fail
   refine(enumber_any _ hi HL2.out).mono ?_
   rintro e0 w5 ⟨rfl,m5⟩
   have hc5:=HC4.out.trans m5 (by simp)
   have HC5:=hide hc5
   clear m5
   go_wp2_with fail
   refine Ph.on (fun _=>hc5.mono (by simp)) ?_
   clear hc5
   show wpQuiet _ _ _ _ _ _
   simp only[gd]
   refine wpQuiet_nil ?_
   go_wp2_with (refine wpList_laid rfl 40 43 2 _ rfl _ rfl Tryz.underlying40 zval 5 zinfo (by decide) (by decide) [(0,.agg (jnN lo).cells),(1,.agg (jnN hi).cells)] rfl (jlcells [jnN lo,jnN hi]).toArray (by kernel_rfl) ?_;intro w6 m6 b6 s6;have hc6:=HC5.out.trans m6 (by simp);have HC6:=hide hc6;have HB6:=hide b6;have HQ:=hide (HC5.out.size);clear m6 b6 s6)
   obtain⟨q5,hq5⟩:∃q5,w5.heap.size=q5:=⟨_,rfl⟩
   rw[hq5]at HB6 HQ ⊢
   clear hq5
   refine Ph.on (fun _=>hc6.mono (by simp)) ?_
   clear hc6
   show wpQuiet _ _ _ _ _ _
   simp only[gd]
   repeat (go_big_quiet_step (fail))
   refine wpQuiet_nil ?_
   go_wp2_with (refine wpList_laid rfl 40 43 1 _ rfl _ rfl Tryz.underlying40 zval 5 zinfo (by decide) (by decide) [(0,.agg (jrN q5 (lo,hi)).cells)] rfl (jrN q5 (lo,hi)).cells (by kernel_rfl) ?_;intro w7 m7 b7 s7;have hc7:=HC6.out.trans m7 (by simp);have HC7:=hide hc7;have HB7:=hide b7;have HB67:=hide (m7.blk HB6.out (by simp));clear m7 b7 s7)
   refine Ph.on (fun _=>hc7.mono (by simp)) ?_
   clear hc7
   have hq6:=HQ.out
   have hob:=HOb.out
   obtain⟨A2,c2,w8,hrun,hvl8,_,hown8,hm8⟩:=(HVl.out.mod HC7.out (by simp)).app (Nat.le_trans HBz3.out HC7.out.size) (by have:=HLk.out;omega) (jrN q5 (lo,hi)) (jrN_in HB67.out) (fun g' hg'=>by
    rw[jrN_foot _ _ g' hg']
    refine⟨by have:=HBz3.out;omega,HB67.out.lt,fun he=> ?_⟩
    have:=hob q5 (by rw[←HFe.out,Option.mem_toList];exact he)
    have:=HZ3.out
    omega) _ HB7.out
   rw[HFe.out]at hm8 hown8
   rw[HLk.out]at hrun
   have hc8:Mod F w3 w8:=(HC7.out.mono (by simp)).trans hm8 (fun x hx=> .inl hx)
   have hlF:lb∉F:=fun hq=>by have h1:=hob lb hq;have:=HLb.out;have:=HB3.out;omega
   have hb8:=hc8.blk HBl.out hlF
   have HC8:=hide hc8
   have HV8:=hide hvl8
   have HRun:=hide hrun
   have HB8:=hide hb8
   have HlF:=hide hlF
   clear hq6 hob hrun hvl8 hown8 hm8 hb8 hlF
   show wpQuiet _ _ _ _ _ _
   simp only[gd]
   refine wpQuiet_nil ?_
   go_wp2_with (at_builtin;refine Lib.wpList_append_run _ rfl (.tmp 15) (.tmp 24) 40 40 rfl (.slice A' k c') (.slice (some ⟨w6.heap.size,0,none⟩) 1 1) rfl rfl _ w8 HRun.out ?_)
   refine Ph.on (fun _=>hc8) ?_
   clear hc8
   show wpQuiet _ _ _ _ _ _
   simp only[gd]
   repeat (go_big_quiet_step (fail))
   refine wpQuiet_nil ?_
   have y3:w8.cell? ⟨lb,3,none⟩=some (.slice A' k c'):=(HB8.out.cell 3).trans (by rw[←HLk.out];rfl)
   have u3:w8.frozen? ⟨lb,3,none⟩=false:=HB8.out.frozen 3
   have hl8:=HB8.out.lt
   go_wp2_with fail
   clear y3 u3 hl8
   refine Ph.on (fun h=>by cases h) ?_
   show wpQuiet _ _ _ _ _ _
   simp only[gd]
   refine wpQuiet_nil ?_
   go_wp2_with fail
   have hob:=HOb.out
   have hB3:=HB3.out
   have hLb:=HLb.out
   have hLk:=HLk.out
   have h8l:=HC8.out.size
   have hB8z:=HBz3.out
   go_roundw
   case rel=>
    refine⟨k+1,A2,c2,l++ [jrN q5 (lo,hi)],by go_num,by omega,by rw[List.length_append,hLk];rfl,hide ?_,hide ?_,hide (HV8.out.mod ((Mod.refl [lb] w8).setCell (p:=⟨lb,3,none⟩) (.inl (by simp)) _) (fun g hg=>by simp at hg;omega)),hide ((HC8.out.blk HBf.out (fun hq=>by have h1:=hob _ hq;omega)).far (p:=⟨lb,3,none⟩) (by show w.heap.size≠lb;omega) _),hide ((HC8.out.blk HBr.out (fun hq=>by have h1:=hob _ hq;omega)).far (p:=⟨lb,3,none⟩) (by show w.heap.size+1≠lb;omega) _),hide ?_,hide ?_⟩
    ·rw[JN.vs_app,hv.out,take_map_snoc jr HX.out,JN.vs,JN.vs,jrN_v]
    ·have h9:=HB8.out.set_ 3 (.slice A2 (k+1) c2)
     have e:(jlN A2 c2 (l++ [jrN q5 (lo,hi)])).cells=(jlN A' c' l).cells.setIfInBounds 3 (.slice A2 (k+1) c2):=by
      show #[_,_,_,Value.slice A2 (l++ [jrN q5 (lo,hi)]).length c2,_]=_
      rw[List.length_append,hLk]
      rfl
     rw[e]
     exact h9
    ·exact(HM3.out.trans HC8.out (fun x hx=> .inr (by have:=hob x hx;omega))).setCell (p:=⟨lb,3,none⟩) (.inr (by show w.heap.size≤lb;omega)) _
    ·simpa [World.setCell] using Nat.le_trans hB8z h8l
   case measure=>simp[intOf];omega
  ·skip
   have hkn:k=n:=by omega
   obtain rfl:=hkn
   have hvv:JN.vs l=f.list.map jr:=by rw[hv.out,List.take_of_length_le (by have:=HN.out;omega)]
   have HVv:=hide hvv
   clear hvv hv hlt
   go_upto_region 7 with fail
   have y0:∀i:Fam (Mod [] wr),i.w.cell? ⟨w.heap.size,0,none⟩=some (.int .u64 (f.kind:Nat)):=fam_cell0 (hbf.out.cell 0) (by simp)
   have y1:∀i:Fam (Mod [] wr),i.w.cell? ⟨w.heap.size,1,none⟩=some (.int .u64 (f.a:Nat)):=fam_cell0 (hbf.out.cell 1) (by simp)
   have y2:∀i:Fam (Mod [] wr),i.w.cell? ⟨w.heap.size,2,none⟩=some (.int .u64 (f.b:Nat)):=fam_cell0 (hbf.out.cell 2) (by simp)
   have y3:∀i:Fam (Mod [] wr),i.w.cell? ⟨w.heap.size,3,none⟩=some (.int .u64 (f.c:Nat)):=fam_cell0 (hbf.out.cell 3) (by simp)
   have y4:∀i:Fam (Mod [] wr),i.w.cell? ⟨w.heap.size,4,none⟩=some (.bool f.fin):=fam_cell0 (hbf.out.cell 4) (by simp)
   have y5:∀i:Fam (Mod [] wr),i.w.cell? ⟨w.heap.size,5,none⟩=some (.string f.data):=fam_cell0 (hbf.out.cell 5) (by simp)
   have y6:∀i:Fam (Mod [] wr),i.w.cell? ⟨w.heap.size,6,none⟩=some (.string f.more):=fam_cell0 (hbf.out.cell 6) (by simp)
   have hlw:=hbl.out.lt
   refine wp_region_plan (Mod [] wr) [25] [([1,2,4,5,7,8,10,11,13,14,16,17,19,20,22],0),([],3),([],6),([],9),([],12),([],15),([],18),([],21),([],23),([24],25)] [] (by kernel_rfl) (by kernel_rfl) (fun _ _ _ _ _ h=>h) ((Mod.refl _ wr).drew) ?_
   show wpQuiet _ _ _ _ _ _
   simp only[gd]
   repeat (first | (refine wpQuiet_row rfl 43 _ rfl lb 0 rfl (jlN A' c' l).cells.toList _ (cls_row hbl.out (Mod.refl _ wr) hlw (by simp)) rfl rfl (by kernel_rfl) ?_) | go_big_quiet_step (fail))
   refine wpQuiet_nil ?_
   clear y0 y1 y2 y3 y4 y5 y6 hlw
   go_wp2_with fail
   refine(efkeys_any _).mono ?_
   rintro e0 w2 ⟨rfl,hbk,m2⟩
   obtain⟨gk,hgk⟩:∃gk,wr.drew.heap.size=gk:=⟨_,rfl⟩
   have HGk:Hid (wr.heap.size≤gk):=hide (by rw[←hgk];exact Nat.le_refl _)
   have hgk2:wr.heap.size=gk:=hgk
   rw[hgk]at hbk
   simp only[World.size_drew,hgk2]
   have hc2:=(Mod.refl [] wr).drew.trans m2 (by simp)
   have HC2:=hide hc2
   have HK2:=hide hbk
   clear m2 hbk hgk hgk2
   go_wp2_with fail
   refine Ph.on (fun _=>hc2) ?_
   clear hc2
   show wpQuiet _ _ _ _ _ _
   simp only[gd]
   refine wpQuiet_nil ?_
   go_wp2_with fail
   refine(enumber_any _ f.kind (by have:=HF.out.kind;omega)).mono ?_
   rintro e0 w3 ⟨rfl,m3⟩
   have hc3:=HC2.out.trans m3 (by simp)
   have HC3:=hide hc3
   have HK3:=hide (m3.blk HK2.out (by simp))
   clear m3
   go_wp2_with fail
   refine Ph.on (fun _=>hc3) ?_
   clear hc3
   show wpQuiet _ _ _ _ _ _
   simp only[gd]
   refine wpQuiet_nil ?_
   go_wp2_with fail
   refine(enumber_any _ f.a HF.out.a).mono ?_
   rintro e0 w4 ⟨rfl,m4⟩
   have hc4:=HC3.out.trans m4 (by simp)
   have HC4:=hide hc4
   have HK4:=hide (m4.blk HK3.out (by simp))
   clear m4
   go_wp2_with fail
   refine Ph.on (fun _=>hc4) ?_
   clear hc4
   show wpQuiet _ _ _ _ _ _
   simp only[gd]
   refine wpQuiet_nil ?_
   go_wp2_with fail
   refine(enumber_any _ f.b HF.out.b).mono ?_
   rintro e0 w5 ⟨rfl,m5⟩
   have hc5:=HC4.out.trans m5 (by simp)
   have HC5:=hide hc5
   have HK5:=hide (m5.blk HK4.out (by simp))
   clear m5
   go_wp2_with fail
   refine Ph.on (fun _=>hc5) ?_
   clear hc5
   show wpQuiet _ _ _ _ _ _
   simp only[gd]
   refine wpQuiet_nil ?_
   go_wp2_with fail
   refine(enumber_any _ f.c HF.out.c).mono ?_
   rintro e0 w6 ⟨rfl,m6⟩
   have hc6:=HC5.out.trans m6 (by simp)
   have HC6:=hide hc6
   have HK6:=hide (m6.blk HK5.out (by simp))
   clear m6
   go_wp2_with fail
   refine Ph.on (fun _=>hc6) ?_
   clear hc6
   show wpQuiet _ _ _ _ _ _
   simp only[gd]
   refine wpQuiet_nil ?_
   go_wp2_with fail
   refine(etruth_any _ f.fin ).mono ?_
   rintro e0 w7 ⟨rfl,m7⟩
   have hc7:=HC6.out.trans m7 (by simp)
   have HC7:=hide hc7
   have HK7:=hide (m7.blk HK6.out (by simp))
   clear m7
   go_wp2_with fail
   refine Ph.on (fun _=>hc7) ?_
   clear hc7
   show wpQuiet _ _ _ _ _ _
   simp only[gd]
   refine wpQuiet_nil ?_
   go_wp2_with fail
   refine(ewords_any _ f.data ).mono ?_
   rintro e0 w8 ⟨rfl,m8⟩
   have hc8:=HC7.out.trans m8 (by simp)
   have HC8:=hide hc8
   have HK8:=hide (m8.blk HK7.out (by simp))
   clear m8
   go_wp2_with fail
   refine Ph.on (fun _=>hc8) ?_
   clear hc8
   show wpQuiet _ _ _ _ _ _
   simp only[gd]
   refine wpQuiet_nil ?_
   go_wp2_with fail
   refine(ewords_any _ f.more ).mono ?_
   rintro e0 w9 ⟨rfl,m9⟩
   have hc9:=HC8.out.trans m9 (by simp)
   have HC9:=hide hc9
   have HK9:=hide (m9.blk HK8.out (by simp))
   clear m9
   go_wp2_with fail
   refine Ph.on (fun _=>hc9) ?_
   clear hc9
   show wpQuiet _ _ _ _ _ _
   simp only[gd]
   refine wpQuiet_nil ?_
   go_wp2_with (refine wpList_laid rfl 40 43 8 _ rfl _ rfl Tryz.underlying40 zval 5 zinfo (by decide) (by decide) [(0,.agg (jnN f.kind).cells),(1,.agg (jnN f.a).cells),(2,.agg (jnN f.b).cells),(3,.agg (jnN f.c).cells),(4,.agg (jbN f.fin).cells),(5,.agg (jtN f.data).cells),(6,.agg (jtN f.more).cells),(7,.agg (jlN A' c' l).cells)] rfl (jlcells [jnN f.kind,jnN f.a,jnN f.b,jnN f.c,jbN f.fin,jtN f.data,jtN f.more,jlN A' c' l]).toArray (by kernel_rfl) ?_;intro w10 m10 b10 s10;have hc10:=HC9.out.trans m10 (by simp);have HC10:=hide hc10;have HK10:=hide (m10.blk HK9.out (by simp));have HB10:=hide b10;clear m10 b10 s10)
   obtain⟨g,hg⟩:∃g,w9.heap.size=g:=⟨_,rfl⟩
   have HG:Hid (wr.heap.size≤g):=hide (by rw[←hg];exact HC9.out.size)
   rw[hg]at HB10 ⊢
   clear hg
   refine Ph.on (fun _=>hc10) ?_
   clear hc10
   show wpQuiet _ _ _ _ _ _
   simp only[gd]
   repeat (go_big_quiet_step (fail))
   refine wpQuiet_nil ?_
   have HR10:=hide (HC10.out.blk hbr.out (by simp))
   go_wp2_with (refine wpList_store_whole rfl 43 _ _ rfl rfl (w.heap.size+1) 43 zcs (JN.mk 6 0 ⟨#[]⟩ (some ⟨g,0,none⟩) 8 [jnN f.kind,jnN f.a,jnN f.b,jnN f.c,jbN f.fin,jtN f.data,jtN f.more,jlN A' c' l] (some ⟨gk,0,none⟩) 8 fkeys).cells HR10.out rfl rfl (by kernel_rfl) rfl (by kernel_rfl) ?_;intro w11 m11 b11 s11;have HM11:=hide m11;have HB11:=hide b11;clear m11 b11 s11)
   refine Ph.on (fun h=>by cases h) ?_
   show wpQuiet _ _ _ _ _ _
   simp only[gd]
   refine wpQuiet_nil ?_
   go_wp2_with fail
   refine bodyPost_ret (results_cell_row rfl _ _ (w.heap.size+1) 43 (JN.mk 6 0 ⟨#[]⟩ (some ⟨g,0,none⟩) 8 [jnN f.kind,jnN f.a,jnN f.b,jnN f.c,jbN f.fin,jtN f.data,jtN f.more,jlN A' c' l] (some ⟨gk,0,none⟩) 8 fkeys).cells (0,0) _ rfl HB11.out Tryz.underlying43 rfl (by kernel_rfl)) rfl ?_
   have hB3:=HB3.out
   have hbz':=hbz.out
   have hg:=HG.out
   have hgk:=HGk.out
   have hfoot:=hvl.out.foot
   have hmm:Mod [w.heap.size+1] wr w11:=(HC10.out.mono (by simp)).trans HM11.out (fun x hx=> .inl hx)
   refine⟨g,gk,jlN A' c' l,rfl,HM11.out.blk HB10.out (by simp;omega),HM11.out.blk HK10.out (by simp;omega),?_,?_,by omega,by omega,fun q hq=> ?_,(hm.out.trans HC10.out (by simp)).trans HM11.out (fun x hx=> .inr (by simp at hx;omega))⟩
   ·unfold jlN
    rw[JN.v,HVv.out]
   ·unfold jlN
    rw[JIn]
    refine⟨⟨by unfold jmax;omega,Nat.zero_le _,Nat.zero_le _⟩,.inl rfl,hvl.out.row.mod hmm (fun q hq=>by have:=hfoot q (List.mem_append.2 (.inl hq));simp;omega),JIns.mod hmm (fun q hq=>by have:=hfoot q (List.mem_append.2 (.inr hq));simp;omega) hvl.out.jins⟩
   ·unfold jlN at hq
    rw[JFoot]at hq
    have:=hfoot q (by simpa using hq)
    have:=hmm.size
    omega
end Go.Proofs.YtlfjhgamlkbofaaGreatDoor
