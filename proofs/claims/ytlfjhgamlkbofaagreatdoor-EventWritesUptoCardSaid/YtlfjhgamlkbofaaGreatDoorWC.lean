/-
  Contracts of the functions that the laws of this seat reach, and plain laws, part 1 of 17; no condition.
-/
import Derived.WalkKit
import Derived.WalkSpells
import Derived.WalkLawsBesides
import Derived.Deep.AppendSrc
import Derived.Lib.AppendZerosOnto
import Derived.Maps.AppendAt
import Derived.Deep.QuietTactic
import Derived.BigQuiet
import Derived.Test.YtlfjhgamlkbofaaGreatDoorProg
import Derived.Laws.Bits64b
import Derived.Laws.BitsAllLaws
import Derived.Laws.IdiomStrings
import Derived.Deep.OwnRows
import Derived.Lib.ConvBytes
import Derived.Lib.Strings
import Derived.Outline
import Derived.Laws.ResultCell
import Derived.Shelf.Strings.BuilderK
import Derived.Deep.RegionHeld3
import Derived.Deep.WholeRow
import Derived.Deep.MidRow
import Derived.Great.BuildSlice
import Derived.OpenShut
import Derived.ChangeSame
import Derived.Deep.Fields
import Derived.Deep.Slices
import Derived.Still
import Derived.Lib.QuietBelow
import Derived.Maps.RangeWalk
import Derived.Maps.OwnSet
import Derived.Deep.RegionHeld
import Derived.Deep.Quiet
import Derived.Laws.Tables
set_option linter.unusedVariables false
set_option linter.unusedSimpArgs false
set_option linter.unnecessarySimpa false
set_option maxRecDepth 100000
set_option maxHeartbeats 16000000
namespace Go.Proofs.YtlfjhgamlkbofaaGreatDoor
open Go.RowKit
theorem pu:(∀(a:Act) (d:Tmp) (v:Value),a.put (some d) v= { a with tmps:=a.tmps.setIfInBounds d v })∧(∀(a:Act) (v:Value),a.put none v=a)∧(∀(l:List Value) (i:Nat) (v:Value),l.toArray.setIfInBounds i v=(l.set i v).toArray)∧
  (∀(x y:Value) (l:List Value),(x ::l).set 0 y=y ::l)∧(∀(x y:Value) (l:List Value) (n:Nat),(x ::l).set (n+1) y=x ::l.set n y):=⟨fun _ _ _=>rfl,fun _ _=>rfl,fun l i v=>List.setIfInBounds_toArray l i v,fun _ _ _=>rfl,fun _ _ _ _=>rfl⟩
theorem gd:(∀f:Nat→Oper,[].map f= [])∧(∀(f:Nat→Oper) (x:Nat) (l:List Nat),(x ::l).map f=f x ::l.map f)∧(∀(x d:Oper) (l:List Oper),(x ::l).getD 0 d=x)∧(∀(x d:Oper) (l:List Oper) (n:Nat),(x ::l).getD (n+1) d=l.getD n d):=⟨fun _=>rfl,fun _ _ _=>rfl,fun _ _ _=>rfl,fun _ _ _ _=>rfl⟩
theorem q00 {p:Prop} (h:p):Hid p:=h
def Blk (w:World) (g:Nat) (t:TypeId) (cs:Array Value):Prop:=w.heap[g]? =some (.cells cs t (0,0))
section
variable {w w':World} {g:Nat} {t:TypeId} {cs:Array Value}
theorem Blk.lt (h:Blk w g t cs):g < w.heap.size:=by
 rcases Nat.lt_or_ge g w.heap.size with hlt | hge
 ·exact hlt
 ·unfold Blk at h;rw[Array.getElem?_eq_none hge]at h;cases h
theorem Blk.cell (h:Blk w g t cs) (i:Nat):w.cell? ⟨g,i,none⟩=cs[i]? :=cell_of_row w g i cs t (0,0) h
theorem Blk.frozen (h:Blk w g t cs) (i:Nat):w.frozen? ⟨g,i,none⟩=false:=by unfold Blk at h;simp[World.frozen?,h]
theorem Blk.new (w:World) (t:TypeId) (cs:Array Value):Blk (w.alloc (.cells cs t)) w.heap.size t cs:=heap_alloc_new w _
theorem Blk.drew (h:Blk w g t cs):Blk w.drew g t cs:=h
theorem Blk.alloc (h:Blk w g t cs) (o:Obj):Blk (w.alloc o) g t cs:=(Below.heap_alloc w o g h.lt).trans h
theorem Blk.set_ (h:Blk w g t cs) (i:Nat) (u:Value):Blk (w.setCell ⟨g,i,none⟩ u) g t (cs.setIfInBounds i u):=by unfold Blk at h ⊢;simp[World.setCell,Array.getElem?_modify,h]
theorem Blk.far (h:Blk w g t cs) {p:Addr} (hp:g≠p.block) (u:Value):Blk (w.setCell p u) g t cs:=(Below.heap_setCell w p u g hp).trans h
theorem Blk.ne_ {g':Nat} {t':TypeId} {cs':Array Value} (h:Blk w g t cs) (h':Blk w g' t' cs') (hne:t≠t'):g≠g':=by rintro rfl;unfold Blk at h h';rw[h]at h';injection h' with h';injection h' with _ ht;exact hne ht
end
structure Mod (F:List Nat) (w w':World):Prop where
 os:w'.os=w.os
 tape:w'.tape=w.tape
 output:w'.output=w.output
 size:w.heap.size≤w'.heap.size
 block:∀k,k < w.heap.size→k∉F→w'.heap[k]? =w.heap[k]?
section
variable {F G:List Nat} {a b c w w':World}
theorem Mod.refl (F:List Nat) (w:World):Mod F w w:=⟨rfl,rfl,rfl,Nat.le_refl _,fun _ _ _=>rfl⟩
theorem Mod.trans (h:Mod F a b) (k:Mod G b c) (hG:∀x∈G,x∈F∨a.heap.size≤x):Mod F a c:=
 ⟨k.os.trans h.os,k.tape.trans h.tape,k.output.trans h.output,Nat.le_trans h.size k.size,fun i hi hn=>
  (k.block i (Nat.lt_of_lt_of_le hi h.size) (fun hg=>by rcases hG i hg with h1 | h1;exact hn h1;omega)).trans (h.block i hi hn)⟩
theorem Mod.mono (h:Mod F a b) (hF:∀x∈F,x∈G∨a.heap.size≤x):Mod G a b:=
 ⟨h.os,h.tape,h.output,h.size,fun i hi hn=>h.block i hi (fun hf=>by rcases hF i hf with h1 | h1;exact hn h1;omega)⟩
theorem Mod.alloc (h:Mod F a w) (o:Obj):Mod F a (w.alloc o):=
 ⟨h.os,h.tape,h.output,Nat.le_trans h.size (by simp),fun i hi hn=>(Below.heap_alloc w o i (Nat.lt_of_lt_of_le hi h.size)).trans (h.block i hi hn)⟩
theorem Mod.drew (h:Mod F a w):Mod F a w.drew:=⟨h.os,h.tape,h.output,h.size,h.block⟩
theorem Mod.drewN (h:Mod F a w) (n:Nat):Mod F a (w.drewN n):=⟨h.os,h.tape,h.output,h.size,h.block⟩
theorem Mod.setCell (h:Mod F a w) {p:Addr} (hp:p.block∈F∨a.heap.size≤p.block) (u:Value):Mod F a (w.setCell p u):=
 ⟨h.os,h.tape,h.output,by simpa [World.setCell] using h.size,fun i hi hn=>(Below.heap_setCell w p u i (by
  rintro rfl
  rcases hp with hp | hp
  ·exact hn hp
  ·omega)).trans (h.block i hi hn)⟩
theorem Mod.grown (h:Mod F a w) {row:Option Nat} (hg:w.grownBy w' row) (hr:∀k,row=some k→k∈F∨a.heap.size≤k):Mod F a w':=
 ⟨hg.os.trans h.os,hg.tape.trans h.tape,hg.output.trans h.output,Nat.le_trans h.size hg.size,fun i hi hn=>
  (hg.block i (Nat.lt_of_lt_of_le hi h.size) (fun e=>by rcases hr i e.symm with h1 | h1;exact hn h1;omega)).trans (h.block i hi hn)⟩
theorem Mod.of_grown {row:Option Nat} (hg:w.grownBy w' row):Mod row.toList w w':=
 (Mod.refl _ w).grown hg (fun k hk=>by simp[hk])
theorem Mod.cell (h:Mod F a w) {p:Addr} (hp:p.block < a.heap.size) (hn:p.block∉F):w.cell? p=a.cell? p:=World.cell?_of_block (h.block p.block hp hn)
theorem Mod.blk (h:Mod F a w) {g:Nat} {t:TypeId} {cs:Array Value} (hb:Blk a g t cs) (hn:g∉F):Blk w g t cs:=(h.block g hb.lt hn).trans hb
theorem Mod.below {B:Nat} (h:Mod F a w) (hB:B≤a.heap.size) (hF:∀x∈F,B≤x):Below B a w:=
 ⟨h.os,h.tape,h.output,h.size,fun k hk=>h.block k (by omega) (fun hf=>by have:=hF k hf;omega)⟩
theorem Mod.of_below (h:Below a.heap.size a w):Mod F a w:=⟨h.os,h.tape,h.output,h.size,fun k hk _=>h.block k hk⟩
end
section
variable {F:List Nat} {a w w':World} {base:Nat} {e:TypeId} {size n:Nat} {v:Value} {xs:List Value}
theorem Mod.own (h:Mod F a w) (ho:a.ownsRow base e size v n xs) (hn:∀k,v.ownBlock=some k→k∉F):w.ownsRow base e size v n xs:=by
 refine⟨ho.1,?_⟩;rcases ho.2 with h0 | ⟨g,cap,cur,hv,hg,hh,r⟩
 ·exact .inl h0
 ·exact .inr ⟨g,cap,cur,hv,hg,(h.block g (Blk.lt hh) (hn g (by rw[hv];rfl))).trans hh,r⟩
theorem qg0 (ho:w.ownsRow base e size v n xs) {p:Addr} (hn:∀k,v.ownBlock=some k→k≠p.block) (u:Value):(w.setCell p u).ownsRow base e size v n xs:=
 ((Mod.refl [p.block] w).setCell (p:=p) (.inl (by simp)) u).own ho (fun k hk=>by have:=hn k hk;simpa using this)
theorem qq6 {g:Nat} {t:TypeId} {cs:Array Value} (h:w.ownsRow base e size v n xs) (hg:Blk w g t cs) (hne:e≠t):∀k,v.ownBlock=some k→k≠g:=by
 rintro k hk rfl;rcases h.2 with⟨rfl,_⟩ | ⟨g',cap,cur,rfl,_,hh,_⟩
 ·simp[Value.ownBlock]at hk
 ·have:g'=k:=(by simpa [Value.ownBlock] using hk);subst this;exact Blk.ne_ (t:=e) hh hg hne rfl
end
structure AppSrc (P:Program) (t tx e:TypeId) (size:Nat) (z:Value) (x:Value) (m:Nat) (news:List Value) (w:World):Prop where
 len:news.length=m * size
 room:∀(ty:TypeId) (g sLen sCap:Nat) (cur:Array Value),w.heap[g]? =some (.cells cur e (0,0))→sLen+m≤sCap→sLen * size+news.length≤cur.size→
  (Builtin.append_ #[t,tx] ty #[.slice (some ⟨g,0,none⟩) sLen sCap,x]).run P w=
   .ok (.slice (some ⟨g,0,none⟩) (sLen+m) sCap) (w.setRow g (cur.toList.take (sLen * size)++ news++ cur.toList.drop (sLen * size+news.length)).toArray)
 grow:∀(ty:TypeId) (base:Option Addr) (sLen sCap:Nat) (olds:List Value),(Builtin.firstCells size sLen (.slice base sLen sCap)).run P w.drew=.ok olds.toArray w.drew→
  sCap < sLen+m→sLen+m≤maxLen→(∃bytes,(∀i,P.info? e=some i→i.bytes=bytes)∧(sLen+m) * bytes≤140737488355328)→
  (Builtin.append_ #[t,tx] ty #[.slice base sLen sCap,x]).run P w=
   .ok (.slice (some ⟨w.heap.size,0,none⟩) (sLen+m) (grownCap w (sLen+m) sCap e))
    (w.drew.alloc (.cells ((olds++ news).toArray++ Builtin.zeroCells z.cells (grownCap w (sLen+m) sCap e - (sLen+m))) e))
 none0:∀(ty:TypeId),m=0→(Builtin.append_ #[t,tx] ty #[.slice none 0 0,x]).run P w=.ok (.slice none 0 0) w
section
variable {P:Program} {w:World} {t tx e:TypeId} {i:TypeInfo} {z:Value} {size:Nat}
theorem AppSrc.of_src (ht:P.underlying t=some (.slice e)) (hi:P.info? e=some i) (hz:i.zero=some z) (hsize:i.size=size) {x:Value} {m:Nat} {news:List Value}
  (hs:Src P size tx x m news w):AppSrc P t tx e size z x m news w:=by
 subst hsize;refine⟨hs.newsLen,?_,?_,?_⟩
 ·intro ty g sLen sCap cur hg hroom hfit;have hst:=run_storeCells_at P g (sLen * i.size) e news 0 cur w hg (by simpa using hfit) hs.one;simp only[Nat.add_zero]at hst;rcases hs.kind with⟨e',hk⟩ | hk <;> simp[Builtin.append_,run_underlying ht,run_underlying hk,sizeOf,typeInfo,hi,hs.len,hroom,hs.cells,Addr.add_lit,hst]
 ·rintro ty base sLen sCap olds hold hg h63 ⟨bytes,hb,hb2⟩;have:=hb i hi;subst this;exact run_append_grow_src w t tx ty e i z ht hi hz base sLen sCap olds hold x m news hs hg (by simp only[maxLen]at h63;omega) (growslice_fits hg hb2)
 ·intro ty hm;subst hm;have hn:news= []:=List.eq_nil_of_length_eq_zero (by simpa using hs.newsLen);subst hn;have hc:=hs.cells;rcases hs.kind with⟨e',hk⟩ | hk <;> simp[Builtin.append_,run_underlying ht,run_underlying hk,sizeOf,typeInfo,hi,hs.len,hc]
theorem jk (ty:TypeId) (base:Nat) (hi:P.info? e=some i) (hsize:i.size=size) (hzs:z.cells.size=size)
  (v:Value) (n:Nat) (xs:List Value) (hown:w.ownsRow base e size v n xs) {x:Value} {m:Nat} {news:List Value} (hs:AppSrc P t tx e size z x m news w)
  (h63:n+m≤maxLen) (hbytes:(n+m) * i.bytes≤140737488355328) (hbase:base≤w.heap.size):
  ∃v' w',(Builtin.append_ #[t,tx] ty #[v,x]).run P w=.ok v' w'∧w'.ownsRow base e size v' (n+m) (xs++ news)∧w.grownBy w' v.ownBlock∧(v'.ownBlock=v.ownBlock∨v'.ownBlock=some w.heap.size):=by
 subst hsize;have hlen:(xs++ news).length=(n+m) * i.size:=by rw[List.length_append,hown.1,hs.len,Nat.add_mul]
 have grown:∀(old:Nat),old < n+m→∀(row:Option Nat),
   (w.drew.alloc (.cells ((xs++ news).toArray++ Builtin.zeroCells z.cells (grownCap w (n+m) old e - (n+m))) e)).ownsRow base e i.size
    (.slice (some ⟨w.heap.size,0,none⟩) (n+m) (grownCap w (n+m) old e)) (n+m) (xs++ news)∧
   w.grownBy (w.drew.alloc (.cells ((xs++ news).toArray++ Builtin.zeroCells z.cells (grownCap w (n+m) old e - (n+m))) e)) row:=by
  intro old ho row;have hge:=grownCap_ge w (n+m) old e;have hcm:grownCap w (n+m) old e≤maxLen:=grownCap_le_maxLen w (n+m) old e h63;refine⟨⟨hlen,.inr ⟨w.heap.size,_,_,rfl,hbase,heap_alloc_new w.drew _,hge,hcm,?_,?_⟩⟩,⟨rfl,rfl,rfl,by simp,fun k hk _=>Below.heap_alloc w.drew _ k (by simpa using hk)⟩⟩
  ·rw[Array.size_append,List.size_toArray,hlen,size_zeroCells,hzs,←Nat.add_mul];congr 1;omega
  ·rw[Array.toList_append,←hlen];exact List.take_left
 rcases hown.2 with⟨rfl,rfl⟩ | ⟨g,cap,cur,rfl,hbg,hg,hnc,hcm,hcs,htake⟩
 ·have hx:xs= []:=List.eq_nil_of_length_eq_zero (by simpa using hown.1);subst hx;by_cases hm:m=0
  ·have hn:news= []:=List.eq_nil_of_length_eq_zero (by rw[hs.len,hm];simp);exact⟨_,_,hs.none0 ty hm,by rw[hm,hn];simpa using World.ownsRow_nil w base e i.size,⟨rfl,rfl,rfl,Nat.le_refl _,fun _ _ _=>rfl⟩,.inl rfl⟩
  ·have hr:=hs.grow ty none 0 0 [] (by simp[Builtin.firstCells]) (by omega) h63 ⟨i.bytes,fun j hj=>by rw[hi]at hj;cases hj;rfl,hbytes⟩;have hgr:=grown 0 (by omega) (Value.ownBlock (.slice none 0 0));exact⟨_,_,hr,hgr.1,hgr.2,.inr rfl⟩
 ·by_cases hroom:n+m≤cap
  ·have hfit:n * i.size+news.length≤cur.size:=(by rw[hs.len,hcs,←Nat.add_mul];exact Nat.mul_le_mul_right _ hroom);have hr:=hs.room ty g n cap cur hg hroom hfit;refine⟨_,_,hr,⟨hlen,.inr ⟨g,cap,_,rfl,hbg,setRow_heap w g cur _ e _ hg,hroom,hcm,?_,?_⟩⟩,⟨rfl,rfl,rfl,by simp,fun k _ hk=>setRow_other w g k _ (fun e=>hk (by simp[Value.ownBlock,e]))⟩,.inl rfl⟩
   ·simp only[List.size_toArray,List.length_append,List.length_take,List.length_drop,Array.length_toList];omega
   ·rw[htake,←hlen];exact List.take_left
  ·have holds:∀j u,xs[j]? =some u→w.cell? ((⟨g,0,none⟩:Addr).add j)=some u:=hown.cells (g:=g) rfl;have hr:=hs.grow ty (some ⟨g,0,none⟩) n cap xs (run_firstCells_some w.drew i.size n ⟨g,0,none⟩ n cap xs hown.1 (by simpa using holds)) (by omega) h63 ⟨i.bytes,fun j hj=>by rw[hi]at hj;cases hj;rfl,hbytes⟩;have hgr:=grown cap (by omega) (Value.ownBlock (.slice (some ⟨g,0,none⟩) n cap));exact⟨_,_,hr,hgr.1,hgr.2,.inr rfl⟩
end
def be (n:Nat):Nat→List UInt8
 | 0=> []
 | k+1=>UInt8.ofNat (n / 256 ^ k % 256) ::be n k
def q52 (a:Nat) (l:List UInt8):Nat:=l.foldl (fun a c=>a * 256+c.toNat) a
theorem q32 (n k:Nat):(be n k).length=k:=by
 induction k with
 | zero=>rfl
 | succ k ih=>simp[be,ih]
theorem zb8 (n k j:Nat) (h:j < k):(be n k)[j]? =some (UInt8.ofNat (n / 256 ^ (k - 1 - j) % 256)):=by
 induction k generalizing j with
 | zero=>omega
 | succ k ih=>
  cases j with
  | zero=>simp[be]
  | succ j=>simp only[be,List.getElem?_cons_succ];rw[ih j (by omega),show k+1 - 1 - (j+1)=k - 1 - j by omega]
theorem qp4 (a:Nat) (c:UInt8) (l:List UInt8):q52 a (c ::l)=q52 (a * 256+c.toNat) l:=rfl
theorem j57 (a:Nat) (l:List UInt8):q52 a l=a * 256 ^ l.length+q52 0 l:=by
 induction l generalizing a with
 | nil=>simp[q52]
 | cons c l ih=>rw[qp4,qp4,ih,ih (0 * 256+c.toNat),List.length_cons,Nat.pow_succ,Nat.add_mul,Nat.zero_mul,Nat.zero_add,←Nat.add_assoc];congr 2;rw[Nat.mul_assoc,Nat.mul_comm 256]
theorem qz8 (l:List UInt8):q52 0 l < 256 ^ l.length:=by
 induction l with
 | nil=>simp[q52]
 | cons c l ih=>rw[qp4,j57,List.length_cons,Nat.pow_succ];have:=c.toNat_lt;have h2:(0 * 256+c.toNat) * 256 ^ l.length≤255 * 256 ^ l.length:=Nat.mul_le_mul_right _ (by omega);have:=Nat.mul_comm (256 ^ l.length) 256;omega
theorem jj2 (a n k:Nat):q52 a (be n k)=a * 256 ^ k+n % 256 ^ k:=by
 induction k generalizing a with
 | zero=>simp[q52,be,Nat.mod_one]
 | succ k ih=>rw[be,qp4,ih];have h1:(UInt8.ofNat (n / 256 ^ k % 256)).toNat=n / 256 ^ k % 256:=(by simp[UInt8.toNat_ofNat']);rw[h1,Nat.add_mul,Nat.add_assoc,Nat.mul_assoc,Nat.pow_succ,Nat.mul_comm 256 (256 ^ k)];congr 1;rw[Nat.mod_mul,Nat.add_comm,Nat.mul_comm]
theorem jh7 (l:List UInt8) (a:Nat):be (a * 256 ^ l.length+q52 0 l) l.length=l:=by
 induction l generalizing a with
 | nil=>rfl
 | cons c l ih=>rw[List.length_cons,be];have h1:q52 0 (c ::l)=c.toNat * 256 ^ l.length+q52 0 l:=(by rw[qp4,j57];congr 2;omega);have h2:=qz8 l;have hp:0 < 256 ^ l.length:=Nat.pow_pos (by omega);have h3:a * 256 ^ (l.length+1)+q52 0 (c ::l)=(a * 256+c.toNat) * 256 ^ l.length+q52 0 l:=(by rw[h1,Nat.pow_succ,Nat.add_mul,←Nat.add_assoc];congr 2;rw[Nat.mul_assoc,Nat.mul_comm 256]);rw[h3,ih];congr 1;have h4:((a * 256+c.toNat) * 256 ^ l.length+q52 0 l) / 256 ^ l.length=a * 256+c.toNat:=(by rw[Nat.mul_comm,Nat.mul_add_div hp,Nat.div_eq_of_lt h2,Nat.add_zero]);rw[h4];have:=c.toNat_lt;rw[show(a * 256+c.toNat) % 256=c.toNat by omega];simp
theorem jh6 (n k:Nat):be (n % 256 ^ k) k=be n k:=by have h:=jh7 (be n k) 0;rw[q32,jj2]at h;simpa using h
def vk (n:Nat):Nat:=if n < 64 then 0 else if n < 16384 then 1 else if n < 1073741824 then 2 else 3
def q49 (k:Nat):Nat:=match k with | 0=>1 | 1=>2 | 2=>4 | _=>8
def qb9 (k:Nat):Nat:=match k with | 0=>0 | 1=>16384 | 2=>2147483648 | _=>13835058055282163712
def qr1 (n k:Nat):List UInt8:=be (n+qb9 k) (q49 k)
def j05 (n:Nat):List UInt8:=qr1 n (vk n)
def qr6 (n:Nat):Nat:=q49 (vk n)
def q03 (n:Nat):List UInt8:=if 4611686018427387903 < n then []else j05 n
def jc9 (n:Nat):Int:=if 4611686018427387903 < n then 3 else 0
structure VTake where
 n:Nat
 rest:List UInt8
 e:Int
def q35 (s:List UInt8):VTake:=
 match s with
 | []=>⟨0,[],2⟩
 | c ::t=>if s.length < q49 (c.toNat / 64)then⟨0,[],2⟩else⟨q52 (c.toNat % 64) (t.take (q49 (c.toNat / 64) - 1)),t.drop (q49 (c.toNat / 64) - 1),0⟩
theorem jg6 (n : Nat) : vk n ≤ 3 := by unfold vk; repeat' split
                                       all_goals omega
theorem qv2 (n:Nat):1≤qr6 n∧qr6 n≤8:=by
 unfold qr6 vk
 repeat' split
 all_goals simp[q49]
theorem qt2 (n:Nat):(j05 n).length=qr6 n:=q32 _ _
theorem zq9 (n:Nat):j05 n≠ []:=by intro h;have:=qt2 n;rw[h]at this;have:=qv2 n;simp at *;omega
theorem z97 (n:Nat) (hn:n < 4611686018427387904) (r:List UInt8):q35 (j05 n++ r)=⟨n,r,0⟩:=by
 have key:∀k,vk n=k→n < 4611686018427387904→∃m,q49 k=m+1∧(n+qb9 k) / 256 ^ m % 256 / 64=k∧(n+qb9 k) / 256 ^ m % 256 % 64 * 256 ^ m+(n+qb9 k) % 256 ^ m=n:=by
  intro k hk h;unfold vk at hk
  split at hk
  ·subst hk;exact⟨0,rfl,by simp[qb9];omega,by simp[qb9];omega⟩
  ·split at hk
   ·subst hk;exact⟨1,rfl,by simp[qb9];omega,by simp[qb9];omega⟩
   ·split at hk
    ·subst hk;exact⟨3,rfl,by simp[qb9];omega,by simp[qb9];omega⟩
    ·subst hk;exact⟨7,rfl,by simp[qb9];omega,by simp[qb9];omega⟩
 obtain⟨m,h1,h2,h3⟩:=key _ rfl hn;unfold j05 qr1;rw[h1,be,List.cons_append];have hc:(UInt8.ofNat ((n+qb9 (vk n)) / 256 ^ m % 256)).toNat=(n+qb9 (vk n)) / 256 ^ m % 256:=(by simp[UInt8.toNat_ofNat']);unfold q35;simp only[hc,h2,h1,Nat.add_sub_cancel];rw[if_neg (by simp[q32])];have e1:(be (n+qb9 (vk n)) m++ r).take m=be (n+qb9 (vk n)) m:=(by rw[List.take_append_of_le_length (by rw[q32];omega),List.take_of_length_le (by rw[q32];omega)]);have e2:(be (n+qb9 (vk n)) m++ r).drop m=r:=(by rw[List.drop_append_of_le_length (by rw[q32];omega),List.drop_of_length_le (by rw[q32];omega),List.nil_append]);rw[e1,e2,jj2,h3]
theorem jd0 {s:List UInt8} {n:Nat} {r:List UInt8} (h:q35 s=⟨n,r,0⟩):
  ∃k,k≤3∧s.length=r.length+q49 k∧n < 4611686018427387904∧s=qr1 n k++ r∧vk n≤k:=by
 unfold q35 at h
 split at h
 ·cases h
 ·rename_i c t
  split at h
  ·cases h
  ·rename_i hlen;have hcl:=c.toNat_lt;obtain⟨k,hk⟩:∃k,c.toNat / 64=k:=⟨_,rfl⟩;have hk3:k≤3:=(by omega);rw[hk]at h hlen;obtain⟨m,hm⟩:∃m,q49 k=m+1:=by
    match k,hk3 with
    | 0,_=>exact⟨0,rfl⟩
    | 1,_=>exact⟨1,rfl⟩
    | 2,_=>exact⟨3,rfl⟩
    | 3,_=>exact⟨7,rfl⟩
   rw[hm,Nat.add_sub_cancel]at h;simp only[VTake.mk.injEq,and_true]at h;obtain⟨h1,h2⟩:=h;have htl:m≤t.length:=(by simp at hlen;omega);have hl:(t.take m).length=m:=(by rw[List.length_take];omega);have hlt:=qz8 (t.take m);rw[j57,hl]at h1;rw[hl]at hlt;obtain⟨z,hz⟩:∃z,q52 0 (t.take m)=z:=⟨_,rfl⟩;rw[hz]at h1 hlt;have hbz:be z m=t.take m:=by have:=jh7 (t.take m) 0;rw[hl,hz,Nat.zero_mul,Nat.zero_add]at this;exact this
   have key:(n+qb9 k)=c.toNat * 256 ^ m+z∧n < 4611686018427387904∧vk n≤k:=by
    unfold vk
    match k,hk3,hm,hk with
    | 0,_,hm,hk=>obtain rfl:m=0:=(by simp[q49]at hm;omega);have h0:n < 64:=(by simp at h1 hlt;omega);rw[if_pos h0];simp[qb9]at h1 hlt hk ⊢;omega
    | 1,_,hm,hk=>
     obtain rfl:m=1:=(by simp[q49]at hm;omega);simp[qb9]at *;refine⟨by omega,by omega,?_⟩
     repeat' split
     all_goals omega
    | 2,_,hm,hk=>
     obtain rfl:m=3:=(by simp[q49]at hm;omega);simp[qb9]at *;refine⟨by omega,by omega,?_⟩
     repeat' split
     all_goals omega
    | 3,_,hm,hk=>
     obtain rfl:m=7:=(by simp[q49]at hm;omega);simp[qb9]at *;refine⟨by omega,by omega,?_⟩
     repeat' split
     all_goals omega
   refine⟨k,hk3,?_,key.2.1,?_,key.2.2⟩
   ·rw[hm,←h2,List.length_cons,List.length_drop];omega
   ·unfold qr1;rw[hm,key.1,be,←h2];have hp:0 < 256 ^ m:=Nat.pow_pos (by omega);have e1:(c.toNat * 256 ^ m+z) / 256 ^ m=c.toNat:=(by rw[Nat.mul_comm,Nat.mul_add_div hp,Nat.div_eq_of_lt hlt,Nat.add_zero]);have e2:be (c.toNat * 256 ^ m+z) m=t.take m:=(by rw[←hbz,←jh6,Nat.mul_comm,Nat.mul_add_mod,jh6]);rw[e1,e2,show c.toNat % 256=c.toNat by omega,List.cons_append,List.take_append_drop];simp
theorem zr0 (s:List UInt8):(q35 s).e=0∨((q35 s).e=2∧(q35 s).n=0∧(q35 s).rest= []):=by
 unfold q35
 split
 ·exact .inr ⟨rfl,rfl,rfl⟩
 ·split
  ·exact .inr ⟨rfl,rfl,rfl⟩
  ·exact .inl rfl
theorem jx7 {n k:Nat} (hk:k≤3) (h:qr6 n=q49 k):qr1 n k=j05 n:=by
 unfold j05;unfold qr6 at h;have:=jg6 n;have:vk n=k:=by
  generalize vk n=j at *
  match j,k,this,hk,h with
  | 0,0,_,_,_=>rfl
  | 1,1,_,_,_=>rfl
  | 2,2,_,_,_=>rfl
  | 3,3,_,_,_=>rfl
  | 0,1,_,_,h=>simp[q49]at h
  | 0,2,_,_,h=>simp[q49]at h
  | 0,3,_,_,h=>simp[q49]at h
  | 1,0,_,_,h=>simp[q49]at h
  | 1,2,_,_,h=>simp[q49]at h
  | 1,3,_,_,h=>simp[q49]at h
  | 2,0,_,_,h=>simp[q49]at h
  | 2,1,_,_,h=>simp[q49]at h
  | 2,3,_,_,h=>simp[q49]at h
  | 3,0,_,_,h=>simp[q49]at h
  | 3,1,_,_,h=>simp[q49]at h
  | 3,2,_,_,h=>simp[q49]at h
 rw[this]
theorem js5 (n c k:Nat):be (n+c * 256 ^ k) k=be n k:=by rw[←jh6,Nat.add_mul_mod_self_right,jh6]
theorem z13 {n k:Nat} (hk:k≤3) (hv:vk n≤k) (hn:n < 4611686018427387904):∃m b,q49 k=m+1∧m≤7∧n / 256 ^ m % 256=b∧b < 64∧qr1 n k=UInt8.ofNat (b+k * 64) ::be n m:=by
 unfold vk at hv
 match k,hk,hv with
 | 0,_,hv=>
  have h0:n < 64:=by
   split at hv
   ·assumption
   ·split at hv
    ·omega
    ·split at hv <;> omega
  refine⟨0,n,rfl,by omega,by simp;omega,h0,?_⟩;unfold qr1;simp only[q49,qb9,be,Nat.pow_zero,Nat.div_one,Nat.add_zero,Nat.zero_mul];rw[show n % 256=n by omega]
 | 1,_,hv=>
  have h0:n < 16384:=by
   split at hv
   ·omega
   ·split at hv
    ·assumption
    ·split at hv <;> omega
  refine⟨1,n / 256 ^ 1 % 256,rfl,by omega,rfl,by simp;omega,?_⟩;have e:=js5 n 64 1;show UInt8.ofNat ((n+16384) / 256 ^ 1 % 256) ::be (n+16384) 1=_;rw[show n+16384=n+64 * 256 ^ 1 by omega,e];congr 2;simp;omega
 | 2,_,hv=>
  have h0:n < 1073741824:=by
   split at hv
   ·omega
   ·split at hv
    ·omega
    ·split at hv <;> omega
  refine⟨3,n / 256 ^ 3 % 256,rfl,by omega,rfl,by simp;omega,?_⟩;have e:=js5 n 128 3;show UInt8.ofNat ((n+2147483648) / 256 ^ 3 % 256) ::be (n+2147483648) 3=_;rw[show n+2147483648=n+128 * 256 ^ 3 by omega,e];congr 2;simp;omega
 | 3,_,hv=>refine⟨7,n / 256 ^ 7 % 256,rfl,by omega,rfl,by simp;omega,?_⟩;have e:=js5 n 192 7;show UInt8.ofNat ((n+13835058055282163712) / 256 ^ 7 % 256) ::be (n+13835058055282163712) 7=_;rw[show n+13835058055282163712=n+192 * 256 ^ 7 by omega,e];congr 2;simp;omega
def qn7 (k:Nat):Nat:=match k with | 0=>64 | 1=>16384 | 2=>1073741824 | _=>4611686018427387904
theorem jl0 {n j:Nat} (hj:j < 3) (h:j≤vk n):(n < qn7 j→vk n=j)∧(¬n < qn7 j→j+1≤vk n):=by
 unfold vk at h ⊢
 match j,hj with
 | 0,_=>simp only[qn7];constructor <;> intro h2 <;> (repeat' split) <;> omega
 | 1,_=>simp only[qn7];constructor <;> intro h2 <;> (repeat' split at h) <;> (repeat' split) <;> omega
 | 2,_=>simp only[qn7];constructor <;> intro h2 <;> (repeat' split at h) <;> (repeat' split) <;> omega
structure Fr where
 kind:Nat
 a:Nat
 b:Nat
 c:Nat
 fin:Bool
 data:ByteArray
 more:ByteArray
 list:List (Nat×Nat)
def fr0:Fr:=⟨0,0,0,0,false,⟨#[]⟩,⟨#[]⟩,[]⟩
theorem Fr.ext' {f g:Fr} (h1:f.kind=g.kind) (h2:f.a=g.a) (h3:f.b=g.b) (h4:f.c=g.c) (h5:f.fin=g.fin) (h6:f.data=g.data) (h7:f.more=g.more) (h8:f.list=g.list):f=g:=by obtain⟨_,_,_,_,_,_,_,_⟩:=f;obtain⟨_,_,_,_,_,_,_,_⟩:=g;simp only at h1 h2 h3 h4 h5 h6 h7 h8;subst h1 h2 h3 h4 h5 h6 h7 h8;rfl
structure Shp where
 n:Nat
 t:Bool
 x:Nat
def q16 (k:Nat):Option Shp:=
 if k=1∨k=30 then some ⟨0,false,0⟩
 else if k=4 then some ⟨3,false,0⟩
 else if k=5∨k=17∨k=21 then some ⟨2,false,0⟩
 else if k=16∨k=18∨k=19∨k=20∨k=22∨k=23∨k=25 then some ⟨1,false,0⟩
 else if k=6∨k=29 then some ⟨1,true,0⟩
 else if k=28 then some ⟨2,true,0⟩
 else if k=7 then some ⟨0,true,0⟩
 else if k=26∨k=27 then some ⟨0,false,8⟩
 else none
def q56:Option Nat→List (Nat×Nat)→Bool
 | _,[]=>true
 | prev,r ::t=>decide (r.1≤r.2) && decide (r.2 < 4611686018427387904) && (match prev with | none=>true | some p=>decide (2≤p) && decide (r.2≤p - 2)) && q56 (some r.1) t
def rngs (l:List (Nat×Nat)):Bool:=q56 none l && (decide (1≤l.length) && decide (l.length≤64))
def qv4 (f:Fr):Bool:=
 (if f.kind=3 then decide (f.more.size=8) && decide (q52 0 f.more.data.toList < 4611686018427387904)else decide (f.b=0) && decide (f.c=0) && decide (f.more.size=0)) &&
  (!f.fin && decide (f.data.size=0) && rngs f.list)
def qm4 (f:Fr):Bool:=
 if f.kind=18∨f.kind=19∨f.kind=22∨f.kind=23 then decide (f.a≤1152921504606846976)
 else if f.kind=7 then decide (f.data.size≠0)
 else if f.kind=6 then decide (f.a+f.data.size < 4611686018427387904)
 else true
def qa8 (f:Fr):Bool:=
 if f.kind=0 then decide (1≤f.a) && decide (f.a≤16384) && decide (f.list= []) && decide (f.b=0) && decide (f.c=0) && !f.fin && decide (f.data.size=0) && decide (f.more.size=0)
 else if f.kind=2∨f.kind=3 then qv4 f
 else if f.kind=8 then decide (f.list= []) && decide (f.c=0) && decide (f.more.size=0) && decide (f.b+f.data.size < 4611686018427387904)
 else if f.kind=24 then decide (f.list= []) && decide (f.c=0) && !f.fin && decide (f.b≤f.a) && decide (1≤f.data.size) && decide (f.data.size≤20) && decide (f.more.size=16)
 else false
def qd (s:Shp) (f:Fr):Bool:=
 (decide (1≤s.n) || decide (f.a=0)) && (decide (2≤s.n) || decide (f.b=0)) && (decide (3≤s.n) || decide (f.c=0)) && !f.fin && (s.t || decide (0 < s.x) || decide (f.data.size=0)) && decide (f.more.size=0) && decide (f.list= [])
def q31 (f:Fr):Bool:=
 decide (f.a < 4611686018427387904) && decide (f.b < 4611686018427387904) && decide (f.c < 4611686018427387904) && decide (f.data.size≤16384) &&
  match q16 f.kind with
  | none=>qa8 f
  | some s=>qd s f && (decide (s.x=0) || decide (f.data.size=s.x)) && qm4 f
def qf6 (s:ByteArray):List UInt8:=q03 s.size++ s.data.toList
def qa5:Nat→List (Nat×Nat)→List UInt8
 | _,[]=> []
 | p,r ::t=>q03 (p - r.2 - 2)++ (q03 (r.2 - r.1)++ qa5 r.1 t)
def ji5 (f:Fr):List UInt8:=match f.list with
 | []=> []
 | r ::t=>q03 f.kind++ (q03 r.2++ (q03 f.a++ (q03 t.length++ (q03 (r.2 - r.1)++ (qa5 r.1 t++ (if f.kind=3 then q03 f.b++ (q03 f.c++ q03 (q52 0 f.more.data.toList))else []))))))
def q38 (f:Fr):List UInt8:=q03 (10+(if f.b=0 then 0 else 4)+(if f.fin then 1 else 0))++ (q03 f.a++ ((if f.b=0 then []else q03 f.b)++ qf6 f.data))
def z36 (f:Fr):List UInt8:=q03 24++ (q03 f.a++ (q03 f.b++ (UInt8.ofNat f.data.size ::(f.data.data.toList++ f.more.data.toList))))
def qa9 (f:Fr):List UInt8:=
 if f.kind=0 then List.replicate f.a 0
 else if f.kind=8 then q38 f
 else if f.kind=24 then z36 f
 else ji5 f
def qc5 (n:Nat) (f:Fr):List UInt8:=(([f.a,f.b,f.c].take n).map q03).flatten
def qm7 (s:Shp) (f:Fr):List UInt8:=if s.t then qf6 f.data else if 0 < s.x then f.data.data.toList else []
def q15 (f:Fr):List UInt8:=match q16 f.kind with
 | some s=>q03 f.kind++ (qc5 s.n f++ qm7 s f)
 | none=>qa9 f
def fwS (f:Fr):List UInt8:=if q31 f then q15 f else []
def fwE (f:Fr):Int:=if q31 f then 0 else 2
def str (l:List UInt8):Value:=.string ⟨l.toArray⟩
def bv (c:UInt8):Value:=.int .u8 (c.toNat:Int)
theorem ja9 {a b:Bool} (h:a=b):Ending.returned (.bool a)=.returned (.bool b):=by rw[h]
def q71 (n k j:Nat):Array Value:=((List.range k).map fun m=>if k≤m+j then Value.int .u8 ((n / 256 ^ (k - 1 - m) % 256:Nat):Int)else .int .u8 0).toArray
theorem qi5 (n k j:Nat):(q71 n k j).size=k:=by simp[q71]
theorem j33 (n k:Nat):q71 n k 0=Array.replicate k (.int .u8 0):=by
 apply Array.ext
 ·simp[q71]
 ·intro i h1 h2;simp[q71]at h1 ⊢;omega
theorem j91 (n k j:Nat) (h:j < k):(q71 n k j).setIfInBounds (k - 1 - j) (.int .u8 ((n / 256 ^ j % 256:Nat):Int))=q71 n k (j+1):=by
 apply Array.ext
 ·simp[q71]
 ·intro i h1 h2;simp only[Array.size_setIfInBounds,qi5]at h1;rw[Array.getElem_setIfInBounds];by_cases e:k - 1 - j=i
  ·rw[if_pos e];simp only[q71,List.getElem_toArray,List.getElem_map,List.getElem_range];rw[if_pos (by omega),show k - 1 - i=j by omega]
  ·rw[if_neg e];simp only[q71,List.getElem_toArray,List.getElem_map,List.getElem_range];by_cases h3:k≤i+j
   ·rw[if_pos h3,if_pos (by omega)]
   ·rw[if_neg h3,if_neg (by omega)]
  ·simpa [qi5] using h1
theorem j90 (n k:Nat):q71 n k k=((be n k).map bv).toArray:=by
 apply Array.ext
 ·simp[q71,q32]
 ·intro i h1 h2;rw[qi5]at h1;simp only[q71,List.getElem_toArray,List.getElem_map,List.getElem_range];rw[if_pos (by omega)];have:=zb8 n k i h1;rw[List.getElem?_eq_getElem (by rw[q32];exact h1)]at this;rw[Option.some.inj this];simp[bv,UInt8.toNat_ofNat']
theorem qn2 (z:Value) (n:Nat):madeCells #[z] n=Array.replicate n z:=by apply Array.ext';rw[toList_madeCells_one];simp
theorem qx8:(Tryz.prog.info? 5).map (fun i=>(i.zero,i.size,i.bytes))=some (some (.int .u8 0),1,1):=by kernel_rfl
theorem zd2 (w:World) (n:Nat) (k:Nat) (hk:k≤8):
  Calls Tryz.prog 184 #[.int .u64 n,.int .i64 k] w fun e w'=>
   e=.returned (.slice (some ⟨w.heap.size,0,none⟩) k k)∧Blk w' w.heap.size 5 ((be n k).map bv).toArray∧Mod [] w w':=by
 have hmk:=fun w=>(Go.run_make_row' (P:=Tryz.prog) 100 5 (.int .u8 0) 1 Tryz.underlying100 qx8 rfl .i64 .i64 k (by omega) (by omega) w).trans (by rw[qn2]);go_enter Tryz.func184,Tryz.ntmps184;go_wp2_with fail;have hb0:Blk (w.alloc (.cells (Array.replicate k (.int .u8 0)) 5)) w.heap.size 5 (q71 n k 0):=(by rw[j33];exact Blk.new w _ _);have hm0:Mod [] w (w.alloc (.cells (Array.replicate k (.int .u8 0)) 5)):=(Mod.refl _ _).alloc _;go_loopw [0,11] (fun x i wr=>∃j:Nat,j≤k∧i=.int .i64 (j:Int)∧x=.int .u64 ((n / 256 ^ j:Nat):Int)∧Blk wr w.heap.size 5 (q71 n k j)∧Mod [] w wr) (fun _ i _=>k - (intOf i).toNat)
 case atStart=>exact⟨0,by omega,rfl,by simp,hb0,hm0⟩
 case round=>
  obtain⟨j,hj,rfl,rfl,hb,hm⟩:=hrel;clear hb0 hm0;have c0:=hb.cell (k - 1 - j);have hlt:=hb.lt;have hfz:=hb.frozen (k - 1 - j);by_cases h:j < k
  ·have h1:((k:Int) - 1 - j)=((k - 1 - j:Nat):Int):=(by omega);have hc:(q71 n k j)[k - 1 - j]? =some ((q71 n k j)[k - 1 - j]'(by rw[qi5];omega)):=Array.getElem?_eq_getElem _;rw[hc]at c0;have hset:=hb.set_ (k - 1 - j) (.int .u8 ((n / 256 ^ j % 256:Nat):Int));rw[j91 n k j h]at hset;have hpw:n / 256 ^ (j+1)=n / 256 ^ j / 256:=(by rw[Nat.pow_succ,Nat.div_div_eq_div_mul]);obtain⟨N,hN⟩:∃N,n / 256 ^ j=N:=⟨_,rfl⟩;rw[hN]at hset hpw ⊢;have HPw:=q00 hpw;have HSet:=q00 (show Blk (wr.setCell ⟨w.heap.size,k - 1 - j,none⟩ (.int .u8 ((N:Int) % 256))) w.heap.size 5 (q71 n k (j+1))by rw[show((N:Int) % 256)=((N % 256:Nat):Int)by omega];exact hset);clear hN hpw hset hb;go_wp2_with fail;go_roundw
   case rel=>exact⟨j+1,by omega,by go_num,by rw[HPw.out];congr 1,HSet.out,hm.setCell (.inr (Nat.le_refl _)) _⟩
   case measure=>simp[intOf];omega
  ·have:j=k:=(by omega);subst this;rw[j90]at hb;have HB:=q00 hb;clear hb c0;go_wp2_with fail;go_ret;exact⟨rfl,HB.out,hm⟩
theorem qh2 (w:World) (g:Nat) (l:List UInt8) (R:List Value) (c:Nat) (h:Blk w g 5 (l.map bv++ R).toArray):
  (convert 100 9 (.slice (some ⟨g,0,none⟩) l.length c)).run Tryz.prog w=.ok (str l) w:=
 run_convert_bytes_back (P:=Tryz.prog) w 100 9 5 ⟨g,0,none⟩ c l Tryz.underlying100 Tryz.underlying5 Tryz.underlying9 (fun j hj=>by
  rw[Addr.add_lit,Nat.zero_add,h.cell j]
  rw[List.getElem?_toArray,List.getElem?_append_left (by simpa using hj)]
  simp[bv,hj])
theorem zp2 (b k:Nat) (hb:b < 64) (hk:k≤3):bits .or .u8 (b:Int) ((k * 64:Nat):Int)=((b+k * 64:Nat):Int):=by rw[u8_or_nat b (k * 64) (by omega) (by omega)];congr 1;have key:∀(b:Fin 64) (k:Fin 4),b.val ||| (k.val * 64)=b.val+k.val * 64:=(by decide);exact key ⟨b,hb⟩ ⟨k,by omega⟩
theorem zg0 (w : World) (n : Nat) (k : Nat) (hk : k ≤ 3) (hn : n < 4611686018427387904) (hv : vk n ≤ k) :
    Calls Tryz.prog 154 #[.int .u64 n, .int .i64 k] w fun e w' => e = .returned (str (qr1 n k)) ∧ Mod [] w w' := by
  obtain ⟨m, b, hm, hm7, hb, hb64, hlay⟩ := z13 hk hv hn;have hsh : (2 : Int) ^ k = (m : Int) + 1 := by
    match k, hk, hm with
    | 0, _, hm => obtain rfl : m = 0 := by simp [q49] at hm; omega
                  rfl
    | 1, _, hm => obtain rfl : m = 1 := by simp [q49] at hm; omega
                  rfl
    | 2, _, hm => obtain rfl : m = 3 := by simp [q49] at hm; omega
                  rfl
    | 3, _, hm => obtain rfl : m = 7 := by simp [q49] at hm; omega
                  rfl
  have hhi := zd2 w n (m + 1) (by omega);obtain ⟨B, hB⟩ : ∃ B, b + k * 64 = B := ⟨_, rfl⟩;have hor : bits .or .u8 (b : Int) ((k : Int) * 64) = B := (by rw [← hB, ← zp2 b k hb64 hk]; congr 1);have hB256 : B < 256 := (by omega);rw [hB] at hlay;have e1 : ((m + 1 : Nat) : Int) = (m : Int) + 1 := (by omega);rw [e1] at hhi;have hk64 : IntKind.u8.wrap ((k : Int) * 64) = ((k * 64 : Nat) : Int) := (by rw [IntWalk.u8_in _ (by omega)]; omega);have HHi := q00 hhi;have HLay := q00 hlay;have HB := q00 hb;have Hm := q00 hm;clear hhi hlay hb hv hm e1 hB;go_enter Tryz.func154, Tryz.ntmps154;go_wp2_with fail;refine HHi.out.mono ?_;rintro e w1 ⟨rfl, hbk, m1⟩;have c0 := hbk.cell 0;have hlt := hbk.lt;have hfz := hbk.frozen 0;have c0' : w1.cell? ⟨w.heap.size, 0, none⟩ = some (.int .u8 (b : Int)) := (by rw [c0, be, HB.out];simp [bv, UInt8.toNat_ofNat']; omega);clear c0;have hset := hbk.set_ 0 (.int .u8 (B : Int));have hcs : (((be n (m + 1)).map bv).toArray).setIfInBounds 0 (.int .u8 (B : Int)) = ((qr1 n k).map bv ++ []).toArray := (by rw [HLay.out, be];simp [bv, UInt8.toNat_ofNat']; omega);rw [hcs] at hset;have hcv := qh2 _ _ _ _ (m + 1) hset;have hll : (qr1 n k).length = m + 1 := (by unfold qr1; rw [q32, Hm.out]);rw [hll] at hcv;clear hcs hset hbk;go_wp2_with fail;go_ret;exact ⟨rfl, m1.setCell (.inr (Nat.le_refl _)) _⟩
theorem jm9 (w:World) (n:Nat) (k:Nat) (hk:k < 3) (v:Bool) (hv:decide (n < qn7 k)=v):
  Calls Tryz.prog 166 #[.int .u64 n,.int .i64 k] w fun e w'=>e=.returned (.bool v)∧w'=w:=by
 subst hv
 match k,hk with
 | 0,_=>go_enter Tryz.func166,Tryz.ntmps166;go_wp2_with fail;go_ret;exact⟨ja9 (decide_eq_decide.2 (by show _↔n < 64;omega)),rfl⟩
 | 1,_=>go_enter Tryz.func166,Tryz.ntmps166;go_wp2_with fail;go_ret;exact⟨ja9 (decide_eq_decide.2 (by show _↔n < 16384;omega)),rfl⟩
 | 2,_=>go_enter Tryz.func166,Tryz.ntmps166;go_wp2_with fail;go_ret;exact⟨ja9 (decide_eq_decide.2 (by show _↔n < 1073741824;omega)),rfl⟩
theorem jf5 (w:World) (n:Nat):
  Calls Tryz.prog 129 #[.int .u64 n] w fun e w'=>e=.returned (.int .i64 (vk n:Nat))∧w'=w:=by
 go_enter Tryz.func129,Tryz.ntmps129;go_wp2_with fail;go_loopw [3] (fun i wr=>∃j:Nat,j≤vk n∧i=.int .i64 (j:Int)∧wr=w) (fun i _=>3 - (intOf i).toNat)
 case atStart=>exact⟨0,by omega,rfl,by trivial⟩
 case round=>
  obtain⟨j,hj,rfl,rfl⟩:=hrel;have h3:=jg6 n;by_cases h:j < 3
  ·obtain⟨s1,s2⟩:=jl0 h hj;cases hv:decide (n < qn7 j)
   ·have hs:=s2 (by simpa using hv);have HS:=q00 hs;clear s1 s2 hs;go_wp2_with fail;refine(jm9 _ n j h false hv).mono ?_;rintro e w1 ⟨rfl,rfl⟩;go_wp2_with fail;go_roundw
    case rel=>exact⟨j+1,HS.out,by go_num,by trivial⟩
    case measure=>simp[intOf];omega
   ·have hs:=s1 (by simpa using hv);have HS:=q00 hs;clear s1 s2 hs;go_wp2_with fail;refine(jm9 _ n j h true hv).mono ?_;rintro e w1 ⟨rfl,rfl⟩;go_wp2_with fail;go_ret;exact⟨by rw[HS.out];rfl,rfl⟩
  ·have hs:vk n=j:=(by omega);have HS:=q00 hs;clear hs hj h3;go_wp2_with fail;go_ret;exact⟨by rw[HS.out];rfl,rfl⟩
theorem zv9 (n:Nat):(2:Int) ^ vk n=(qr6 n:Nat):=by
 have:=jg6 n;unfold qr6;generalize vk n=k at *
 match k,this with
 | 0,_=>rfl
 | 1,_=>rfl
 | 2,_=>rfl
 | 3,_=>rfl
theorem jr8 (w:World) (n:Nat):
  Calls Tryz.prog 120 #[.int .u64 n] w fun e w'=>e=.returned (.tuple #[str (q03 n),.int .i64 (jc9 n)])∧Mod [] w w':=by
 by_cases h:4611686018427387903 < n
 ·have h':(4611686018427387903:Int) < n:=(by omega);have H1:Hid (q03 n= []∧jc9 n=3):=q00 ⟨if_pos h,if_pos h⟩;go_enter Tryz.func120,Tryz.ntmps120;go_wp2_with fail;go_ret2;exact⟨by rw[H1.out.1,H1.out.2];rfl,Mod.refl _ _⟩
 ·have h':¬(4611686018427387903:Int) < n:=(by omega);have H1:Hid (q03 n=j05 n∧jc9 n=0):=q00 ⟨if_neg h,if_neg h⟩;obtain⟨k,hk⟩:∃k,vk n=k:=⟨_,rfl⟩;have hk3:=jg6 n;have hl:=jf5 w n;have hly:=zg0 w n k (by omega) (by omega) (by omega);have HLn:Hid (qr1 n k=j05 n):=q00 (by unfold j05;rw[hk]);rw[hk]at hl;have HL:=q00 hl;have HLy:=q00 hly;rw[hk]at hk3;clear hl hly hk;go_enter Tryz.func120,Tryz.ntmps120;go_wp2_with fail;refine HL.out.mono ?_;rintro e w1 ⟨rfl,rfl⟩;go_wp2_with fail;refine HLy.out.mono ?_;rintro e w2 ⟨rfl,m1⟩;rw[HLn.out];go_wp2_with fail;go_ret2;exact⟨by rw[H1.out.1,H1.out.2];rfl,m1⟩
def qj3 (n:Nat):Nat:=if 4611686018427387903 < n then 0 else qr6 n
theorem jg7 (w:World) (n:Nat):
  Calls Tryz.prog 102 #[.int .u64 n] w fun e w'=>e=.returned (.int .i64 (qj3 n:Nat))∧w'=w:=by
 by_cases h:4611686018427387903 < n
 ·have h':(4611686018427387903:Int) < n:=(by omega);have H1:Hid (qj3 n=0):=q00 (if_pos h);go_enter Tryz.func102,Tryz.ntmps102;go_wp2_with fail;go_ret;exact⟨by rw[H1.out];rfl,rfl⟩
 ·have h':¬(4611686018427387903:Int) < n:=(by omega);have H1:Hid (qj3 n=qr6 n):=q00 (if_neg h);obtain⟨k,hk⟩:∃k,vk n=k:=⟨_,rfl⟩;have hl:=jf5 w n;have hp:=zv9 n;have hk3:=jg6 n;rw[hk]at hl hp hk3;have hvs:=qv2 n;have HL:=q00 hl;clear hl hk;go_enter Tryz.func102,Tryz.ntmps102;go_wp2_with fail;refine HL.out.mono ?_;rintro e w1 ⟨rfl,rfl⟩;go_wp2_with fail;go_ret;exact⟨by rw[H1.out];rfl,rfl⟩
theorem jg8 (w : World) (x : ByteArray) :
    Calls Tryz.prog 101 #[.string x] w fun e w' => e = .returned (.tuple #[.int .u64 ((q35 x.data.toList).n : Nat), str (q35 x.data.toList).rest, .int .i64 (q35 x.data.toList).e]) ∧ Mod [] w w' := by
  by_cases h0 : x.toList.isEmpty = true
  · have H1 : Hid (q35 x.data.toList = ⟨0, [], 2⟩) := q00 (by rw [List.isEmpty_iff, Lib.toList_data] at h0;rw [h0]; rfl);go_enter Tryz.func101, Tryz.ntmps101;go_wp2_with fail;refine bodyPost_ret (results_tmp3 rfl _ _ _) rfl ?_;exact ⟨by rw [H1.out]; rfl, Mod.refl _ _⟩
  · have h0' : x.toList.isEmpty = false := (by simpa using h0);obtain ⟨c, t, hx⟩ : ∃ c t, x.data.toList = c :: t := by
      cases hl : x.data.toList with
      | nil => rw [Lib.toList_data, hl] at h0; exact absurd rfl h0
      | cons c t => exact ⟨c, t, rfl⟩
    have hsz : x.size = t.length + 1 := by have e : x.data.toList.length = x.size := Array.length_toList;rw [hx] at e; simp at e; omega
    have hsz0 : (0 : Int) < x.size := (by omega);have hx0 : x[0]'(by omega) = c := by have e : x.data.toList[0]? = some c := (by rw [hx]; rfl);rw [List.getElem?_eq_getElem (by rw [hx]; simp)] at e;have e2 := Option.some.inj e;rw [← e2];simp [ByteArray.getElem_eq_getElem_data]
    have hcl := c.toNat_lt;obtain ⟨k, hk⟩ : ∃ k, c.toNat / 64 = k := ⟨_, rfl⟩;obtain ⟨r, hr⟩ : ∃ r, c.toNat % 64 = r := ⟨_, rfl⟩;have hk3 : k ≤ 3 := (by omega);have hr63 : r ≤ 63 := (by omega);have hk' : (c.toNat : Int) / 64 = k := (by omega);have hand : bits .and .u8 (c.toNat : Int) 63 = r := by have e := u8_and_nat c.toNat 63 (by omega) (by omega);rw [show (63 : Nat) = 2 ^ 6 - 1 from rfl, Nat.and_two_pow_sub_one_eq_mod, show 2 ^ 6 = 64 from rfl, hr] at e;exact e
    obtain ⟨m, hm, hm7⟩ : ∃ m, q49 k = m + 1 ∧ m ≤ 7 := by
      match k, hk3 with
      | 0, _ => exact ⟨0, rfl, by omega⟩
      | 1, _ => exact ⟨1, rfl, by omega⟩
      | 2, _ => exact ⟨3, rfl, by omega⟩
      | 3, _ => exact ⟨7, rfl, by omega⟩
    have hsh : (2 : Int) ^ k = (m : Int) + 1 := by
      match k, hk3, hm with
      | 0, _, hm => obtain rfl : m = 0 := by simp [q49] at hm; omega
                    rfl
      | 1, _, hm => obtain rfl : m = 1 := by simp [q49] at hm; omega
                    rfl
      | 2, _, hm => obtain rfl : m = 3 := by simp [q49] at hm; omega
                    rfl
      | 3, _, hm => obtain rfl : m = 7 := by simp [q49] at hm; omega
                    rfl
    have HV : Hid (q35 x.data.toList = if t.length + 1 < m + 1 then ⟨0, [], 2⟩ else ⟨q52 r (t.take m), t.drop m, 0⟩) := q00 (by rw [hx];unfold q35;simp only [hk, hr, hm, Nat.add_sub_cancel, List.length_cons]);clear hk hr hcl;by_cases htm : t.length < m
    · have HV2 : Hid (q35 x.data.toList = ⟨0, [], 2⟩) := q00 (by rw [HV.out, if_pos (by omega)]);clear HV;go_enter Tryz.func101, Tryz.ntmps101;go_wp2_with fail;refine bodyPost_ret (results_tmp3 rfl _ _ _) rfl ?_;exact ⟨by rw [HV2.out]; rfl, Mod.refl _ _⟩
    have HV2 : Hid (q35 x.data.toList = ⟨q52 r (t.take m), t.drop m, 0⟩) := q00 (by rw [HV.out, if_neg (by omega)]);obtain ⟨D, hD⟩ : ∃ D, t.take m = D := ⟨_, rfl⟩;have hDl : D.length = m := (by rw [← hD, List.length_take]; omega);obtain ⟨Y, hY⟩ : ∃ Y, x.extract 1 (m + 1) = Y := ⟨_, rfl⟩;have hYD : Y.data.toList = D := (by rw [← hY, Lib.extract_data, hx, List.drop_one, List.tail_cons, Nat.add_sub_cancel, hD]);have hYs : Y.size = m := (by rw [← hDl, ← hYD]; exact Array.length_toList.symm);have hrest : x.extract (m + 1) (t.length + 1) = ⟨(t.drop m).toArray⟩ := (by apply ByteArray.ext;apply Array.ext';rw [Lib.extract_data, hx, List.drop_succ_cons, List.take_of_length_le (by rw [List.length_drop]; omega)]);have hcv := Lib.run_convert_string_bytes (P := Tryz.prog) w 9 100 5 Y Tryz.underlying9 Tryz.underlying100 Tryz.underlying5;obtain ⟨cap, hcap⟩ : ∃ cap, grownCap w Y.size 0 5 = cap := ⟨_, rfl⟩;rw [hcap, hYs] at hcv;have hcell : ∀ j (h : j < D.length), (Lib.bytesWorld w 5 Y).cell? ⟨w.heap.size, j, none⟩ = some (.int .u8 (D[j].toNat : Int)) := fun j h => (by rw [Lib.bytesWorld_cell w _ _ _ (by omega), hYD];simp [h]);have hmod : Mod [] w (Lib.bytesWorld w 5 Y) := ⟨rfl, rfl, rfl, by rw [Lib.bytesWorld_size]; omega, fun j hj _ => Lib.bytesWorld_at_old w _ _ j hj⟩;have hszb := Lib.bytesWorld_size w 5 Y;obtain ⟨wb, hwb⟩ : ∃ wb, Lib.bytesWorld w 5 Y = wb := ⟨_, rfl⟩;rw [hwb] at hcv hcell hmod hszb;rw [hD] at HV2;have HCell := q00 hcell;have HRest := q00 hrest;have htm' : m ≤ t.length := (by omega);clear HV htm hD hYD hcap hwb hcell hrest;go_enter Tryz.func101, Tryz.ntmps101;go_wp2_with fail;go_loopw [6, 33] (fun n i wr => ∃ j : Nat, j ≤ m ∧ i = .int .i64 (j : Int) ∧ n = .int .u64 (q52 r (D.take j) : Nat) ∧ wr = wb) (fun _ i _ => m - (intOf i).toNat)
    case atStart => exact ⟨0, by omega, rfl, rfl, by trivial⟩
    case round =>
      obtain ⟨j, hj, rfl, rfl, rfl⟩ := hrel;by_cases h : j < m
      · have c0 := HCell.out j (by omega);obtain ⟨d, hd⟩ : ∃ d, D[j]'(by omega) = d := ⟨_, rfl⟩;rw [hd] at c0;have hnext : q52 r (D.take (j + 1)) = q52 r (D.take j) * 256 + d.toNat := (by rw [← List.take_append_getElem (by omega), hd];simp [q52]);have hbound : q52 r (D.take j) < 64 * 256 ^ j := (by rw [j57];have h1 := qz8 (D.take j);have h2 : (D.take j).length = j := (by rw [List.length_take]; omega);rw [h2] at h1 ⊢;have h3 : r * 256 ^ j ≤ 63 * 256 ^ j := Nat.mul_le_mul_right _ hr63;omega);have hp : (256 : Nat) ^ j ≤ 256 ^ 6 := Nat.pow_le_pow_right (by omega) (by omega);obtain ⟨N, hN⟩ : ∃ N, q52 r (D.take j) = N := ⟨_, rfl⟩;rw [hN] at hnext hbound ⊢;have hNb : N < 18014398509481984 := by have : (256 : Nat) ^ 6 = 281474976710656 := rfl;omega
        have hd256 := d.toNat_lt;have hor : bits .or .u64 ((N : Int) * 256) (d.toNat : Int) = (N : Int) * 256 + d.toNat := by have e := bits_or_u64_nat (N * 256) d.toNat (by omega) (by omega);have e2 := Nat.shiftLeft_add_eq_or_of_lt (b := d.toNat) (i := 8) (by omega) N;rw [Nat.shiftLeft_eq, show 2 ^ 8 = 256 from rfl] at e2;rw [← e2] at e;simpa using e
        have HNext := q00 hnext;clear hnext hbound hp hN hd;go_wp2_with fail;go_roundw
        case rel => exact ⟨j + 1, by omega, by go_num, by rw [HNext.out]; go_num, by trivial⟩
        case measure => simp [intOf]; omega
      · have hjm : j = m := (by omega);subst hjm;rw [List.take_of_length_le (by omega)];obtain ⟨N, hN⟩ : ∃ N, q52 r D = N := ⟨_, rfl⟩;rw [hN] at HV2 ⊢;clear hN;go_wp2_with fail;go_quiet (fail);go_wp2_with fail;refine bodyPost_ret (results_tmp3 rfl _ _ _) rfl ?_;exact ⟨by rw [HV2.out, HRest.out]; rfl, hmod.drewN _⟩
structure Short where
 n:Nat
 rest:List UInt8
 ok:Bool
def q34 (s:List UInt8):Short:=⟨(q35 s).n,(q35 s).rest,decide ((q35 s).e=0) && (qj3 (q35 s).n==s.length - (q35 s).rest.length)⟩
theorem qy (s:List UInt8):(q35 s).rest.length≤s.length:=by
 unfold q35
 split
 ·simp
 ·split
  ·simp
  ·simp;omega
theorem jx8 (s:List UInt8):(q35 s).n < 4611686018427387904:=by
 rcases zr0 s with h | h
 ·obtain⟨k,_,_,h2,_⟩:=jd0 (n:=(q35 s).n) (r:=(q35 s).rest) (s:=s) (by rw[←h]);exact h2
 ·omega
theorem qv8 (s:List UInt8):(q34 s).rest.length≤s.length:=qy s
theorem jc4 (s:List UInt8):(q34 s).n < 4611686018427387904:=jx8 s
theorem q11 (n:Nat):(q03 n).length≤8:=by
 unfold q03
 split
 ·simp
 ·rw[qt2];exact(qv2 n).2
theorem z91 {n:Nat} (hn:n < 4611686018427387904) (r:List UInt8):q34 (j05 n++ r)=⟨n,r,true⟩:=by unfold q34;rw[z97 n hn r];have h1:qj3 n=qr6 n:=if_neg (by omega);simp[h1,qt2]
theorem jd {n:Nat} (hn:n < 4611686018427387904):q03 n=j05 n:=if_neg (by omega)
theorem jw8 {s:List UInt8} (h:(q34 s).ok=true):s=j05 (q34 s).n++ (q34 s).rest∧(q34 s).n < 4611686018427387904:=by have hn:=jc4 s;unfold q34 at h hn ⊢;simp only[Bool.and_eq_true,decide_eq_true_eq,beq_iff_eq]at h hn ⊢;obtain⟨k,hk,hlen,hb,hs,hv⟩:=jd0 (s:=s) (n:=(q35 s).n) (r:=(q35 s).rest) (by rw[←h.1]);have h1:qj3 (q35 s).n=qr6 (q35 s).n:=if_neg (by omega);have h2:=jx7 hk (n:=(q35 s).n) (by rw[h1]at h;omega);rw[h2]at hs;exact⟨hs,hb⟩
theorem q05 (S:ByteArray):S.data.toList.length=S.size:=Array.length_toList
theorem qd2 {S T:ByteArray} (h:S.data.toList=T.data.toList):S=T:=by apply ByteArray.ext;apply Array.ext';exact h
theorem q36 (v:ByteArray):(⟨v.data.toList.toArray⟩:ByteArray)=v:=by apply ByteArray.ext;simp
theorem qq0 (s:ByteArray):s.toList.isEmpty=decide (s.size=0):=by have e:s.data.toList.length=s.size:=Array.length_toList;rw[Lib.toList_data,←e];cases s.data.toList <;> simp
theorem qn {S:ByteArray} (h:S.size=0):S=⟨#[]⟩:=qd2 (List.eq_nil_of_length_eq_zero (by rw[q05];exact h))
def q58 (s:List UInt8):Option (Nat×List UInt8):=if(q34 s).ok then some ((q34 s).n,(q34 s).rest)else none
def qg9 (n:Nat) (s:List UInt8):Option (List UInt8×List UInt8):=if n≤s.length then some (s.take n,s.drop n)else none
def q67 (s:List UInt8):Option (List UInt8×List UInt8):=(q58 s).bind fun x=>qg9 x.1 x.2
theorem q29 {n:Nat} (hn:n < 4611686018427387904) (r:List UInt8):q58 (q03 n++ r)=some (n,r):=by unfold q58;rw[jd hn,z91 hn];rfl
theorem q25 {s:List UInt8} {n:Nat} {r:List UInt8} (h:q58 s=some (n,r)):s=q03 n++ r∧n < 4611686018427387904:=by
 unfold q58 at h
 split at h
 ·rename_i ho;obtain⟨h1,h2⟩:=jw8 ho;simp only[Option.some.injEq,Prod.mk.injEq]at h;obtain⟨rfl,rfl⟩:=h;rw[jd h2];exact⟨h1,h2⟩
 ·cases h
theorem qu9 (d r:List UInt8):qg9 d.length (d++ r)=some (d,r):=by unfold qg9;rw[if_pos (by simp)];simp
theorem qq7 {n:Nat} {s d r:List UInt8} (h:qg9 n s=some (d,r)):s=d++ r∧d.length=n:=by
 unfold qg9 at h
 split at h
 ·simp only[Option.some.injEq,Prod.mk.injEq]at h;obtain⟨rfl,rfl⟩:=h;exact⟨(List.take_append_drop n s).symm,by rw[List.length_take];omega⟩
 ·cases h
theorem qp5 (d r:List UInt8) (hd:d.length < 4611686018427387904):q67 (q03 d.length++ (d++ r))=some (d,r):=by unfold q67;rw[q29 hd];exact qu9 d r
theorem qb4 {s d r:List UInt8} (h:q67 s=some (d,r)):s=q03 d.length++ (d++ r)∧d.length < 4611686018427387904:=by unfold q67 at h;obtain⟨⟨n,t⟩,h1,h2⟩:=Option.bind_eq_some_iff.1 h;obtain⟨rfl,h3⟩:=q25 h1;obtain⟨h4,h5⟩:=qq7 h2;simp only at h4 h5;subst h5;rw[h4];exact⟨rfl,h3⟩
theorem qw7 {P:Program} {e:TypeId} {z:Value} {size bytes:Nat} (h:(P.info? e).map (fun i=>(i.zero,i.size,i.bytes))=some (some z,size,bytes)):
  ∃i,P.info? e=some i∧i.zero=some z∧i.size=size∧i.bytes=bytes:=by
 obtain⟨i,hi,hzz⟩:=Option.map_eq_some_iff.1 h;simp only[Prod.mk.injEq]at hzz;exact⟨i,hi,hzz.1,hzz.2.1,hzz.2.2⟩
theorem qi9 {w:World} {base:Nat} {e:TypeId} {size n:Nat} {v:Value} {xs:List Value} (h:w.ownsRow base e size v n xs):∃A c,v=.slice A n c:=by
 rcases h.2 with⟨rfl,rfl⟩ | ⟨g,cap,cur,rfl,_⟩
 ·exact⟨_,_,rfl⟩
 ·exact⟨_,_,rfl⟩
theorem qk0 {P:Program} {T e:TypeId} {z:Value} {size bytes:Nat} (hT:P.underlying T=some (.slice e)) (hinfo:(P.info? e).map (fun i=>(i.zero,i.size,i.bytes))=some (some z,size,bytes)) (hzs:z.cells.size=size)
  (w:World) (ty:TypeId) (base:Nat) (v:Value) (n:Nat) (xs:List Value) (h:w.ownsRow base e size v n xs) (hbase:base≤w.heap.size) (news:List Value) (hnl:news.length=size) (hone:∀u∈news,u.oneCell'=true)
  (hb:(n+1) * bytes≤140737488355328) (hb63:n < 9223372036854775807) (g:Nat) (hc:∀j u,news[j]? =some u→w.cell? ⟨g,j,none⟩=some u):
  ∃A c w',(Builtin.append_ #[T,T] ty #[v,.slice (some ⟨g,0,none⟩) 1 1]).run P w=.ok (.slice A (n+1) c) w'∧w'.ownsRow base e size (.slice A (n+1) c) (n+1) (xs++ news)∧Mod v.ownBlock.toList w w'∧
   ((Value.slice A (n+1) c).ownBlock=v.ownBlock∨(Value.slice A (n+1) c).ownBlock=some w.heap.size):=by
 obtain⟨i0,hi,hz0,hz1,hz2⟩:=qw7 hinfo;have hsrc:Src P size T (.slice (some ⟨g,0,none⟩) 1 1) 1 news w:=Src.ofSlice w hT _ 1 1 _ (by rw[hnl];omega) (fun j u hu=>by have:=hc j u hu;rwa [Addr.add_lit,Nat.zero_add]) hone;obtain⟨v',w',h1,h2,h3,h4⟩:=jk (P:=P) ty base hi hz1 hzs v n _ h (AppSrc.of_src hT hi hz0 hz1 hsrc) (by simp only[maxLen];omega) (by rw[hz2];exact hb) hbase;obtain⟨A,c,rfl⟩:=qi9 h2;exact⟨A,c,w',h1,h2,Mod.of_grown h3,h4⟩
theorem Mod.keep {a w w':World} {v:Value} {base:Nat} {e:TypeId} {size n:Nat} {xs:List Value} (h:Mod [] a w) (hm:Mod v.ownBlock.toList w w') (ho:w.ownsRow base e size v n xs) (hb:a.heap.size≤base):Mod [] a w':=
 h.trans hm (fun x hx=>by
  right
  simp at hx
  have:=(ho.lt x hx).1
  omega)
def Rngs (w:World) (A:Option Addr) (n:Nat) (l:List (Nat×Nat)):Prop:=
 l.length=n∧n≤4611686018427387904∧(n=0∨∃g o,A=some ⟨g,o,none⟩∧g < w.heap.size∧∀i x,l[i]? =some x→w.cell? ⟨g,o+i * 2,none⟩=some (.int .u64 (x.1:Nat))∧w.cell? ⟨g,o+i * 2+1,none⟩=some (.int .u64 (x.2:Nat)))
def fcs (A:Option Addr) (n c:Nat) (f:Fr):Array Value:= #[.int .u64 (f.kind:Nat),.int .u64 (f.a:Nat),.int .u64 (f.b:Nat),.int .u64 (f.c:Nat),.bool f.fin,.string f.data,.string f.more,.slice A n c]
def q17 (A:Option Addr) (n c:Nat) (f:Fr):Value:=.agg (fcs A n c f)
theorem Rngs.nil (w:World):Rngs w none 0 []:=⟨rfl,by omega,.inl rfl⟩
theorem Rngs.mod {F:List Nat} {w w':World} {A:Option Addr} {n:Nat} {l:List (Nat×Nat)} (h:Rngs w A n l) (hm:Mod F w w') (hF:∀g o,A=some ⟨g,o,none⟩→g∉F):Rngs w' A n l:=by
 refine⟨h.1,h.2.1,?_⟩;rcases h.2.2 with h0 | ⟨g,o,hA,hg,hc⟩
 ·exact .inl h0
 ·refine .inr ⟨g,o,hA,Nat.lt_of_lt_of_le hg hm.size,fun i x hx=> ?_⟩;obtain⟨h1,h2⟩:=hc i x hx;exact⟨(hm.cell (p:=⟨g,o+i * 2,none⟩) hg (hF g o hA)).trans h1,(hm.cell (p:=⟨g,o+i * 2+1,none⟩) hg (hF g o hA)).trans h2⟩
theorem Rngs.new {w w':World} {A:Option Addr} {n:Nat} {l:List (Nat×Nat)} (h:Rngs w A n l) (hm:Mod [] w w'):Rngs w' A n l:=h.mod hm (by simp)
theorem Rngs.at_ {w:World} {A:Option Addr} {n:Nat} {l:List (Nat×Nat)} (h:Rngs w A n l) {i:Nat} (hi:i < n):
  ∃g o,∃hl:i < l.length,A=some ⟨g,o,none⟩∧g < w.heap.size∧w.cell? ⟨g,o+i * 2,none⟩=some (.int .u64 (l[i].1:Nat))∧w.cell? ⟨g,o+i * 2+1,none⟩=some (.int .u64 (l[i].2:Nat)):=by
 rcases h.2.2 with h0 | ⟨g,o,hA,hg,hc⟩
 ·omega
 ·have hl:i < l.length:=by have:=h.1;omega
  obtain⟨h1,h2⟩:=hc i _ (List.getElem?_eq_getElem hl);exact⟨g,o,hl,hA,hg,h1,h2⟩
def qc6 (f g:Fr):Bool:=decide (f.kind=g.kind) && decide (f.a=g.a) && decide (f.b=g.b) && decide (f.c=g.c) && decide (f.fin=g.fin) && decide (f.data=g.data) && decide (f.more=g.more) && decide (f.list=g.list)
theorem fsame_iff {f g:Fr} :qc6 f g=true↔f=g:=by
 unfold qc6;simp only[Bool.and_eq_true,decide_eq_true_eq];constructor
 ·rintro ⟨⟨⟨⟨⟨⟨⟨h1,h2⟩,h3⟩,h4⟩,h5⟩,h6⟩,h7⟩,h8⟩;exact Fr.ext' h1 h2 h3 h4 h5 h6 h7 h8
 ·rintro rfl;simp
theorem qf5 {f g:Fr} (h:f≠g):qc6 f g=false:=by
 cases hs:qc6 f g
 ·rfl
 ·exact absurd (fsame_iff.1 hs) h
theorem qa3 {a b:ByteArray} (h:a≠b):(a.toList==b.toList)=false:=by rw[beq_eq_false_iff_ne];intro e;rw[Lib.toList_data,Lib.toList_data]at e;exact h (ByteArray.ext (Array.ext' e))
def RPost (w:World) (v:Bool) (e:Ending) (w':World):Prop:=e=.returned (.bool v)∧Mod [] w w'
end Go.Proofs.YtlfjhgamlkbofaaGreatDoor
namespace Go.Proofs.YtlfjhgamlkbofaaGreatDoor.Js
open Go
inductive JV where
 | mk (k i:Int) (t:ByteArray) (l:List JV) (ks:List ByteArray)
deriving Inhabited
def JV.k:JV→Int | mk k _ _ _ _=>k
def JV.i:JV→Int | mk _ i _ _ _=>i
def JV.t:JV→ByteArray | mk _ _ t _ _=>t
def JV.l:JV→List JV | mk _ _ _ l _=>l
def JV.ks:JV→List ByteArray | mk _ _ _ _ ks=>ks
mutual
def q27:Nat→JV→Bool
 | d,.mk k i t l ks=>decide (0 < d) && (decide (k=0) || decide (k=1) || decide (k=2) || decide (k=3) || decide (k=4) || decide (k=5) || decide (k=6)) &&
   (decide (k=3) || decide (i=0)) && (decide (k=4) || decide (t.size=0)) && (decide (k=5) || decide (k=6) || l.isEmpty) && (if k=6 then decide (ks.length=l.length)else ks.isEmpty) && q61 (d - 1) l
def q61:Nat→List JV→Bool
 | _,[]=>true
 | d,x ::l=>q27 d x && q61 d l
end
def q93 (n:Nat):UInt8:=if n < 10 then UInt8.ofNat (48+n)else UInt8.ofNat (87+n)
def qr0 (c:UInt8):Option UInt8:=if c=8 then some 98 else if c=9 then some 116 else if c=10 then some 110 else if c=12 then some 102 else if c=13 then some 114 else if c=34 then some 34 else if c=92 then some 92 else none
def esc (c:UInt8):List UInt8:=match qr0 c with
 | some b=> [92,b]
 | none=>if c < 32∨126 < c then [92,117,48,48,q93 (c.toNat / 16),q93 (c.toNat % 16)]else [c]
def quo (s:List UInt8):List UInt8:=34 ::(s.flatMap esc++ [34])
inductive PR (α:Type) where
 | ok (v:α) (r:List UInt8)
 | er (r:List UInt8)
deriving Inhabited
abbrev Pa (α:Type):=List UInt8→PR α
def PR.bind {α β:Type} (x:PR α) (f:α→Pa β):PR β:=match x with
 | .ok v r=>f v r
 | .er r=> .er r
def j13 (c:UInt8):Bool:=c==32 || c==9 || c==10 || c==13
def q72 (c:UInt8):Bool:=decide (48≤c) && decide (c≤57)
def jsp (s:List UInt8):List UInt8:=s.dropWhile j13
def q19 (p:UInt8→Bool):Pa UInt8
 | []=> .er []
 | c ::t=>if p c then .ok c t else .er (c ::t)
def q86:List UInt8→Pa Unit
 | [],s=> .ok () s
 | c ::w,s=>(q19 (· ==c) s).bind fun _ r=>q86 w r
def qq5:List UInt8→Nat→Nat
 | [],a=>a
 | c ::t,a=>qq5 t (a * 10+(c.toNat - 48))
def qo9 (neg:Bool) (s:List UInt8):PR (List UInt8):=(q19 (fun c=>q72 c && (!neg || c !=48)) s).bind fun c t=>if c=48 then .ok [c] t else .ok (c ::t.takeWhile q72) (t.dropWhile q72)
def qp0 (s:List UInt8):PR (Bool×List UInt8):=if s.head? =some 45 then(qo9 true s.tail).bind fun d r=> .ok (true,d) r else(qo9 false s).bind fun d r=> .ok (false,d) r
def qa7 (x:Bool×List UInt8):Int:=if x.1 then -(qq5 x.2 0:Int)else qq5 x.2 0
def q39 (s:List UInt8):PR Int:=match qp0 s with
 | .er r=> .er r
 | .ok x r=>if -9223372036854775808≤qa7 x∧qa7 x < 9223372036854775808 then .ok (qa7 x) r else .er s
def qd4 (c:UInt8):Bool:=q72 c || (decide (97≤c) && decide (c≤102)) || (decide (65≤c) && decide (c≤70))
def qd0 (c:UInt8):UInt8:=if 97≤c then c - 97+10 else if 65≤c then c - 65+10 else c - 48
def qe4 (c:UInt8):Option UInt8:=if c=98 then some 8 else if c=116 then some 9 else if c=110 then some 10 else if c=102 then some 12 else if c=114 then some 13 else if c=34 then some 34 else if c=92 then some 92 else if c=47 then some 47 else none
def qe1 (s:List UInt8):PR UInt8:=
 (q19 (fun c=>(qe4 c).isSome || c==117) s).bind fun c r=>match qe4 c with
  | some b=> .ok b r
  | none=>(q19 (· ==48) r).bind fun _ r=>(q19 (· ==48) r).bind fun _ r=>(q19 qd4 r).bind fun h r=>(q19 qd4 r).bind fun l r=> .ok (qd0 h <<< 4 ||| qd0 l) r
def pri (c:UInt8):Bool:=decide (32≤c) && decide (c≤126)
def jj:Nat→Pa (List UInt8)
 | 0,s=> .er s
 | n+1,s=>(q19 pri s).bind fun c t=>if c=34 then .ok [] t else(if c=92 then qe1 t else .ok c t).bind fun b r=>(jj n r).bind fun l r=> .ok (b ::l) r
def qa0 (s:List UInt8):PR (List UInt8):=jj (s.length+1) s
def q92 (s:List UInt8):PR (List UInt8):=(q19 (· ==34) s).bind fun _ r=>qa0 r
def ji6 (s:List UInt8):PR (List UInt8):=(q92 (jsp s)).bind fun k r=>(q19 (· ==58) (jsp r)).bind fun _ r=> .ok k r
def j93 (P:Pa JV) (obj:Bool):Nat→Pa (List JV×List (List UInt8))
 | 0,s=> .er s
 | n+1,s=>(if obj then(ji6 s).bind fun k r=> .ok [k] r else .ok [] s).bind fun k r=>(P r).bind fun v r=>
   (q19 (fun c=>c==44 || c==(if obj then 125 else 93)) r).bind fun c r=>
    if(c==(if obj then 125 else 93))=true then .ok ([v],k) r else(j93 P obj n r).bind fun x r=> .ok (v ::x.1,k++ x.2) r
def q89 (P:Pa JV) (obj:Bool) (s:List UInt8):PR (List JV×List (List UInt8)):=j93 P obj (s.length+1) s
def q74 (P:Pa JV) (obj:Bool) (s:List UInt8):PR (List JV×List (List UInt8)):=
 let s1:=jsp s
 if s1.head? =some (if obj then 125 else 93)then .ok ([],[]) s1.tail else q89 P obj s1
def jv0:JV:=.mk 0 0 ⟨#[]⟩ [] []
def tob (l:List UInt8):ByteArray:=⟨l.toArray⟩
def qi8 (P:Pa JV) (s:List UInt8):PR JV:=
 if s.head? =some 110 then(q86 [110,117,108,108] s).bind fun _ r=> .ok (.mk 0 0 ⟨#[]⟩ [] []) r
 else if s.head? =some 102 then(q86 [102,97,108,115,101] s).bind fun _ r=> .ok (.mk 1 0 ⟨#[]⟩ [] []) r
 else if s.head? =some 116 then(q86 [116,114,117,101] s).bind fun _ r=> .ok (.mk 2 0 ⟨#[]⟩ [] []) r
 else if s.head? =some 34 then(q92 s).bind fun t r=> .ok (.mk 4 0 (tob t) [] []) r
 else if s.head? =some 91 then(q74 P false s.tail).bind fun x r=> .ok (.mk 5 0 ⟨#[]⟩ x.1 (x.2.map tob)) r
 else if s.head? =some 123 then(q74 P true s.tail).bind fun x r=> .ok (.mk 6 0 ⟨#[]⟩ x.1 (x.2.map tob)) r
 else(q39 s).bind fun n r=> .ok (.mk 3 n ⟨#[]⟩ [] []) r
def q08:Nat→Pa JV
 | 0,s=> .er (jsp s)
 | d+1,s=>(qi8 (q08 d) (jsp s)).bind fun v r=> .ok v (jsp r)
def q81 (s:List UInt8):JV×Int×Int:=match q08 8 s with
 | .ok v []=>(v,0,0)
 | .ok _ r=>(jv0,s.length - r.length,2)
 | .er r=>(jv0,s.length - r.length,2)
def zu9 (c:UInt8):Bool:=c==45 || q72 c
structure GoodAt {α:Type} (P:Pa α) (s:List UInt8):Prop where
 ok:∀v r,P s=.ok v r→∃p,s=p++ r∧∀r',(r'= []∨r'.head? =r.head?)→P (p++ r')=.ok v r'
 er:∀r,P s=.er r→∃p,s=p++ r∧(r.head?.any zu9=false→(∀r',r'.head? =r.head?→P (p++ r')=.er r')∧(P p=.er []∨∃v,P p=.ok v []))
def En {α:Type} (P:Pa α):Prop:=P []=.er []∨∃v,P []=.ok v []
structure Good {α:Type} (P:Pa α):Prop where
 at_:∀s,GoodAt P s
 en:En P
theorem En.bind {α β:Type} {P:Pa α} {Q:α→Pa β} (hp:En P) (hq:∀v,En (Q v)):En (fun s=>(P s).bind Q):=by
 show(P []).bind Q=_∨∃v,(P []).bind Q=_;rcases hp with h | ⟨v,h⟩
 ·left;rw[h];rfl
 ·rw[h];exact hq v
theorem GoodAt.bind {α β:Type} {P:Pa α} {Q:α→Pa β} {s:List UInt8} (hp:GoodAt P s) (hq:∀v r,P s=.ok v r→GoodAt (Q v) r) (he:∀v,En (Q v)):GoodAt (fun s=>(P s).bind Q) s:=by
 refine⟨fun w r h=> ?_,fun r h=> ?_⟩
 ·cases hP:P s with
  | er e=>simp only[hP]at h;cases h
  | ok v k=>
   simp only[hP]at h;obtain⟨p,rfl,h1⟩:=hp.ok v k hP;obtain⟨q,rfl,h2⟩:=(hq v k hP).ok w r h;refine⟨p++ q,by simp,fun r' hr=> ?_⟩;show(P (p++ q++ r')).bind Q=_
   rw[List.append_assoc,h1 (q++ r') (by
    cases q with
    | nil=>simpa using hr
    | cons c q=>right;rfl)]
   exact h2 r' hr
 ·cases hP:P s with
  | er e=>
   simp only[hP]at h;cases h;obtain⟨p,rfl,h1⟩:=hp.er r hP;refine⟨p,rfl,fun hn=> ?_⟩;obtain⟨h2,h3⟩:=h1 hn;refine⟨fun r' hr=> ?_,?_⟩
   ·show(P (p++ r')).bind Q=_;rw[h2 r' hr];rfl
   ·show(P p).bind Q=_∨∃v,(P p).bind Q=_;rcases h3 with h3 | ⟨v,h3⟩
    ·left;rw[h3];rfl
    ·rw[h3];exact he v
  | ok v k=>
   simp only[hP]at h;obtain⟨p,rfl,h1⟩:=hp.ok v k hP;obtain⟨q,rfl,h2⟩:=(hq v _ hP).er r h;refine⟨p++ q,by simp,fun hn=> ?_⟩;obtain⟨h3,h4⟩:=h2 hn;refine⟨fun r' hr=> ?_,?_⟩
   ·show(P (p++ q++ r')).bind Q=_
    rw[List.append_assoc,h1 (q++ r') (by
     cases q with
     | nil=>right;simpa using hr
     | cons c q=>right;rfl)]
    exact h3 r' hr
   ·show(P (p++ q)).bind Q=_∨∃v,(P (p++ q)).bind Q=_
    rw[h1 q (by
     cases q with
     | nil=>left;rfl
     | cons c q=>right;rfl)]
    exact h4
theorem Good.bind {α β:Type} {P:Pa α} {Q:α→Pa β} (hp:Good P) (hq:∀v,Good (Q v)):Good (fun s=>(P s).bind Q):=
 ⟨fun s=>(hp.at_ s).bind (fun v r _=>(hq v).at_ r) (fun v=>(hq v).en),hp.en.bind (fun v=>(hq v).en)⟩
theorem Good.pure {α:Type} (v:α):Good (fun s=>PR.ok v s):=by refine⟨fun s=>⟨fun w r h=> ?_,(fun r h=>by cases h)⟩,.inr ⟨v,rfl⟩⟩;cases h;exact⟨[],rfl,fun r' _=>rfl⟩
theorem Good.take (p:UInt8→Bool):Good (q19 p):=by
 refine⟨fun s=>⟨fun w r h=> ?_,fun r h=> ?_⟩,.inl rfl⟩
 ·cases s with
  | nil=>cases h
  | cons c t=>
   rw[q19]at h
   split at h
   ·cases h;rename_i hc;exact⟨[w],rfl,fun r' _=>by rw[List.singleton_append,q19,if_pos hc]⟩
   ·cases h
 ·cases s with
  | nil=>cases h;exact⟨[],rfl,fun _=>⟨(fun r' hr=>by cases r' with | nil=>rfl | cons c t=>cases hr),.inl rfl⟩⟩
  | cons c t=>
   rw[q19]at h
   split at h
   ·cases h
   ·cases h;rename_i hc;refine⟨[],rfl,fun _=>⟨fun r' hr=> ?_,.inl rfl⟩⟩;cases r' with
    | nil=>cases hr
    | cons d u=>cases hr;rw[List.nil_append,q19,if_neg hc]
theorem q83 {p:UInt8→Bool} {s r:List UInt8} {c:UInt8} (h:q19 p s=.ok c r):s=c ::r∧p c=true:=by
 cases s with
 | nil=>cases h
 | cons d t=>
  rw[q19]at h
  split at h
  ·cases h;exact⟨rfl,by assumption⟩
  ·cases h
theorem jc5 (f:UInt8→Bool) (s:List UInt8):s=s.takeWhile f++ s.dropWhile f:=(List.takeWhile_append_dropWhile).symm
theorem j08 (f:UInt8→Bool):∀(s:List UInt8),(s.dropWhile f).head?.any f=false
 | []=>rfl
 | c ::t=>by
  rw[List.dropWhile_cons]
  split
  ·exact j08 f t
  ·rename_i h;simpa using h
theorem j73 (f:UInt8→Bool):∀(p r:List UInt8),p.all f=true→r.head?.any f=false→(p++ r).dropWhile f=r∧(p++ r).takeWhile f=p
 | [],r,_,h=>by
  cases r with
  | nil=>exact⟨rfl,rfl⟩
  | cons c t=>simp at h;simp[List.dropWhile,List.takeWhile,h]
 | c ::p,r,hp,h=>by
  simp only[List.all_cons,Bool.and_eq_true]at hp
  obtain⟨h1,h2⟩:=j73 f p r hp.2 h
  simp[List.dropWhile,List.takeWhile,hp.1,h1,h2]
theorem jx3 (f:UInt8→Bool):∀(s:List UInt8),(s.takeWhile f).all f=true
 | []=>rfl
 | c ::t=>by
  rw[List.takeWhile_cons]
  split
  ·rename_i h;simp only[List.all_cons,h,Bool.true_and];exact jx3 f t
  ·rfl
theorem Good.sp:Good (fun s=>PR.ok () (jsp s)):=by
 refine⟨fun s=>⟨fun w r h=> ?_,(fun r h=>by cases h)⟩,.inr ⟨(),rfl⟩⟩;cases h;refine⟨s.takeWhile j13,jc5 _ _,fun r' hr=> ?_⟩;show PR.ok () (jsp (s.takeWhile j13++ r'))=_;unfold jsp
 rw[(j73 j13 (s.takeWhile j13) r' (jx3 _ _) (by
  rcases hr with rfl | hr
  ·rfl
  ·rw[hr];exact j08 _ _)).1]
theorem Good.word:∀(w:List UInt8),Good (q86 w)
 | []=>Good.pure ()
 | _ ::w=>(Good.take _).bind (fun _=>Good.word w)
theorem Good.if_ {α:Type} {P Q:Pa α} {b:Prop} [Decidable b] (hp:Good P) (hq:Good Q):Good (fun s=>if b then P s else Q s):=by
 by_cases h:b
 ·simpa [h] using hp
 ·simpa [h] using hq
theorem Good.esc:Good qe1:=by
 refine(Good.take _).bind fun c=> ?_;cases qe4 c with
 | some b=>exact Good.pure b
 | none=>exact(Good.take _).bind fun _=>(Good.take _).bind fun _=>(Good.take _).bind fun _=>(Good.take _).bind fun _=>Good.pure _
theorem GoodAt.le {α:Type} {P:Pa α} {s r:List UInt8} {v:α} (h:GoodAt P s) (hs:P s=.ok v r):r.length≤s.length:=by obtain⟨p,rfl,_⟩:=h.ok v r hs;simp
theorem Good.escq (c:UInt8):Good (fun t=>if c=92 then qe1 t else PR.ok c t):=Good.if_ Good.esc (Good.pure c)
theorem jf0:∀(n m:Nat) (s:List UInt8),s.length < n→s.length < m→jj n s=jj m s
 | 0,_,s,h,_=>absurd h (Nat.not_lt_zero _)
 | _+1,0,s,_,h=>absurd h (Nat.not_lt_zero _)
 | n+1,m+1,s,h,k=>by
  rw[jj,jj]
  cases ht:q19 pri s with
  | er r=>rfl
  | ok c t=>
   obtain⟨rfl,_⟩:=q83 ht
   simp only[PR.bind]
   split
   ·rfl
   ·cases he:(if c=92 then qe1 t else PR.ok c t)with
    | er r=>rfl
    | ok b r=>
     have:=((Good.escq c).at_ t).le he
     simp only[List.length_cons]at h k
     simp only
     rw[jf0 n m r (by omega) (by omega)]
theorem ql2:qa0=fun s=>(q19 pri s).bind fun c t=>if c=34 then .ok [] t else(if c=92 then qe1 t else .ok c t).bind fun b r=>(qa0 r).bind fun l r=> .ok (b ::l) r:=by
 funext s;unfold qa0;rw[jj];cases ht:q19 pri s with
 | er r=>rfl
 | ok c t=>
  obtain⟨rfl,_⟩:=q83 ht;simp only[PR.bind]
  split
  ·rfl
  ·cases he:(if c=92 then qe1 t else PR.ok c t)with
   | er r=>rfl
   | ok b r=>have:=((Good.escq c).at_ t).le he;simp only[List.length_cons];rw[jf0 (t.length+1) (r.length+1) r (by omega) (by omega)]
theorem En.txt:En qa0:=.inl rfl
theorem GoodAt.txt (n:Nat):∀s:List UInt8,s.length < n→GoodAt qa0 s:=by
 induction n with
 | zero=>intro s h;omega
 | succ n ih=>
  intro s h;rw[ql2];have e2:∀(c:UInt8),En (fun t=>if c=34 then PR.ok [] t else(if c=92 then qe1 t else .ok c t).bind fun b r=>(qa0 r).bind fun l r=> .ok (b ::l) r):=fun c=>by
   by_cases hc:c=34
   ·simp only[if_pos hc];exact(Good.pure _).en
   ·simp only[if_neg hc];exact(Good.escq c).en.bind fun b=>En.txt.bind fun l=>(Good.pure _).en
  refine GoodAt.bind ((Good.take pri).at_ s) (fun c t ht=> ?_) e2;obtain⟨rfl,_⟩:=q83 ht;by_cases hc:c=34
  ·simp only[if_pos hc];exact(Good.pure _).at_ t
  ·simp only[if_neg hc];refine GoodAt.bind ((Good.escq c).at_ t) (fun b r hb=> ?_) (fun b=>En.txt.bind fun l=>(Good.pure _).en);have:=((Good.escq c).at_ t).le hb;simp only[List.length_cons]at h;exact GoodAt.bind (ih r (by omega)) (fun l r _=>(Good.pure _).at_ r) (fun l=>(Good.pure _).en)
theorem Good.txt:Good qa0:=⟨fun s=>GoodAt.txt _ s (Nat.lt_succ_self _),En.txt⟩
theorem Good.text:Good q92:=(Good.take _).bind fun _=>Good.txt
theorem Good.ofsp {α:Type} {P:Pa α} (h:Good P):Good (fun s=>P (jsp s)):=by have:=Good.sp.bind (fun _=>h);exact this
theorem Good.key:Good ji6:=by
 have h:Good (fun s=>((fun s=>q92 (jsp s)) s).bind fun k r=>((fun r=>(q19 (· ==58) (jsp r))) r).bind fun _ r=>PR.ok k r):=
  Good.text.ofsp.bind fun k=>(Good.take _).ofsp.bind fun _=>Good.pure k
 exact h
def qh5 (obj:Bool) (s:List UInt8):PR (List (List UInt8)):=if obj then(ji6 s).bind fun k r=> .ok [k] r else .ok [] s
theorem Good.front (obj:Bool):Good (qh5 obj):=by
 cases obj with
 | true=>exact Good.key.bind fun k=>Good.pure [k]
 | false=>exact Good.pure []
def qv7 (P:Pa JV) (obj:Bool) (K:Pa (List JV×List (List UInt8))):Pa (List JV×List (List UInt8)):=fun s=>
 (qh5 obj s).bind fun k r=>(P r).bind fun v r=>
   (q19 (fun c=>c==44 || c==(if obj then 125 else 93)) r).bind fun c r=>
    if(c==(if obj then 125 else 93))=true then .ok ([v],k) r else(K r).bind fun x r=> .ok (v ::x.1,k++ x.2) r
theorem qw8 (P:Pa JV) (obj:Bool) (n:Nat):j93 P obj (n+1)=qv7 P obj (j93 P obj n):=rfl
theorem j35 {P:Pa JV} (hP:Good P) (obj:Bool) {K L:Pa (List JV×List (List UInt8))} {s:List UInt8} (h:∀r,r.length < s.length→K r=L r):qv7 P obj K s=qv7 P obj L s:=by
 unfold qv7;cases h1:qh5 obj s with
 | er r=>rfl
 | ok k r1=>
  have l1:=((Good.front obj).at_ s).le h1;simp only[PR.bind];cases h2:P r1 with
  | er r=>rfl
  | ok v r2=>
   have l2:=(hP.at_ r1).le h2;simp only;cases h3:q19 (fun c=>c==44 || c==(if obj=true then 125 else 93)) r2 with
   | er r=>rfl
   | ok c r3=>obtain⟨rfl,_⟩:=q83 h3;simp only[List.length_cons]at l2;simp only;rw[h r3 (by omega)]
theorem j94 {P:Pa JV} (hP:Good P) (obj:Bool):∀(n m:Nat) (s:List UInt8),s.length < n→s.length < m→j93 P obj n s=j93 P obj m s
 | 0,_,s,h,_=>absurd h (Nat.not_lt_zero _)
 | _+1,0,s,_,h=>absurd h (Nat.not_lt_zero _)
 | n+1,m+1,s,h,k=>by
  rw[qw8,qw8]
  exact j35 hP obj fun r hr=>j94 hP obj n m r (by omega) (by omega)
theorem qu3 {P:Pa JV} (hP:Good P) (obj:Bool):q89 P obj=qv7 P obj (q89 P obj):=by funext s;unfold q89;rw[qw8];exact j35 hP obj fun r hr=>j94 hP obj _ _ r (by omega) (by omega)
theorem En.front_many {P:Pa JV} (hP:Good P) (obj:Bool) {K:Pa (List JV×List (List UInt8))} (hK:En K):En (qv7 P obj K):=
 (Good.front obj).en.bind fun k=>hP.en.bind fun v=>(Good.take _).en.bind fun c=>by
  by_cases hc:(c==(if obj then 125 else 93))=true
  ·simp only[if_pos hc];exact(Good.pure _).en
  ·simp only[if_neg hc];exact hK.bind fun x=>(Good.pure _).en
theorem En.none:En (fun s:List UInt8=>PR.er (α:=List JV×List (List UInt8)) s):=.inl rfl
theorem En.many {P:Pa JV} (hP:Good P) (obj:Bool):En (q89 P obj):=En.front_many hP obj (K:=j93 P obj 0) En.none
theorem GoodAt.many {P:Pa JV} (hP:Good P) (obj:Bool) (n:Nat):∀s:List UInt8,s.length < n→GoodAt (q89 P obj) s:=by
 induction n with
 | zero=>intro s h;omega
 | succ n ih=>
  intro s h;rw[qu3 hP];have e3:∀(k:List (List UInt8)) (v:JV) (c:UInt8),En (fun r=>if(c==(if obj then 125 else 93))=true then PR.ok ([v],k) r else(q89 P obj r).bind fun x r=> .ok (v ::x.1,k++ x.2) r):=fun k v c=>by
   by_cases hc:(c==(if obj then 125 else 93))=true
   ·simp only[if_pos hc];exact(Good.pure _).en
   ·simp only[if_neg hc];exact(En.many hP obj).bind fun x=>(Good.pure _).en
  refine GoodAt.bind ((Good.front obj).at_ s) (fun k r1 h1=> ?_) (fun k=>hP.en.bind fun v=>(Good.take _).en.bind fun c=>e3 k v c);have l1:=((Good.front obj).at_ s).le h1;refine GoodAt.bind (hP.at_ r1) (fun v r2 h2=> ?_) (fun v=>(Good.take _).en.bind fun c=>e3 k v c);have l2:=(hP.at_ r1).le h2;refine GoodAt.bind ((Good.take _).at_ r2) (fun c r3 h3=> ?_) (fun c=>e3 k v c);obtain⟨rfl,_⟩:=q83 h3;simp only[List.length_cons]at l2;by_cases hc:(c==(if obj then 125 else 93))=true
  ·simp only[if_pos hc];exact(Good.pure _).at_ r3
  ·simp only[if_neg hc];exact GoodAt.bind (ih r3 (by omega)) (fun x r _=>(Good.pure _).at_ r) (fun x=>(Good.pure _).en)
theorem Good.many {P:Pa JV} (hP:Good P) (obj:Bool):Good (q89 P obj):=⟨fun s=>GoodAt.many hP obj _ s (Nat.lt_succ_self _),En.many hP obj⟩
theorem Good.choice {α:Type} (c:UInt8) {P Q R:Pa α} (hP:∀t,P (c ::t)=R t) (hR:Good R) (hq:Good Q):Good (fun s=>if s.head? =some c then P s else Q s):=by
 refine⟨fun s=> ?_,hq.en⟩;by_cases h:s.head? =some c
 ·obtain⟨t,rfl⟩:∃t,s=c ::t:=by
   cases s with
   | nil=>cases h
   | cons d t=>cases h;exact⟨t,rfl⟩
  refine⟨fun v r hs=> ?_,fun r hs=> ?_⟩
  ·simp only[List.head?_cons,if_true,hP]at hs;obtain⟨p,rfl,h1⟩:=(hR.at_ t).ok v r hs;refine⟨c ::p,rfl,fun r' hr=> ?_⟩;simp only[List.cons_append,List.head?_cons,if_true,hP];exact h1 r' hr
  ·simp only[List.head?_cons,if_true,hP]at hs;obtain⟨p,rfl,h1⟩:=(hR.at_ t).er r hs;refine⟨c ::p,rfl,fun hn=> ?_⟩;simp only[List.cons_append,List.head?_cons,if_true,hP];exact h1 hn
 ·refine⟨fun v r hs=> ?_,fun r hs=> ?_⟩
  ·simp only[if_neg h]at hs;obtain⟨p,rfl,h1⟩:=(hq.at_ s).ok v r hs;refine⟨p,rfl,fun r' hr=> ?_⟩;have hh:(p++ r').head?≠some c:=by
    cases p with
    | nil=>
     rcases hr with rfl | hr
     ·simp
     ·simpa [hr] using h
    | cons d p=>simpa using h
   simp only[if_neg hh];exact h1 r' hr
  ·simp only[if_neg h]at hs;obtain⟨p,rfl,h1⟩:=(hq.at_ s).er r hs;refine⟨p,rfl,fun hn=> ?_⟩;obtain⟨h2,h3⟩:=h1 hn;refine⟨fun r' hr=> ?_,?_⟩
   ·have hh:(p++ r').head?≠some c:=by
     cases p with
     | nil=>simpa [hr] using h
     | cons d p=>simpa using h
    simp only[if_neg hh];exact h2 r' hr
   ·have hh:p.head?≠some c:=by
     cases p with
     | nil=>simp
     | cons d p=>simpa using h
    simp only[if_neg hh];exact h3
theorem Good.digs (c:UInt8):Good (fun t=>PR.ok (c ::t.takeWhile q72) (t.dropWhile q72)):=by
 refine⟨fun s=>⟨fun w r h=> ?_,(fun r h=>by cases h)⟩,.inr ⟨[c],rfl⟩⟩;cases h;refine⟨s.takeWhile q72,jc5 _ _,fun r' hr=> ?_⟩
 obtain⟨h1,h2⟩:=j73 q72 (s.takeWhile q72) r' (jx3 _ _) (by
  rcases hr with rfl | hr
  ·rfl
  ·rw[hr];exact j08 _ _)
 rw[h1,h2]
theorem Good.dig (neg:Bool):Good (qo9 neg):=(Good.take _).bind fun c=>Good.if_ (Good.pure _) (Good.digs c)
theorem Good.sig:Good qp0:=Good.choice 45 (R:=fun t=>(qo9 true t).bind fun d r=> .ok (true,d) r) (fun t=>rfl) ((Good.dig true).bind fun d=>Good.pure _) ((Good.dig false).bind fun d=>Good.pure _)
theorem jr1 {s r:List UInt8} {x:Bool×List UInt8} (h:qp0 s=.ok x r):s.head?.any zu9=true:=by
 unfold qp0 at h
 split at h
 ·rename_i hh;rw[hh];rfl
 ·unfold qo9 at h;cases ht:q19 (fun c=>q72 c && (!false || c !=48)) s with
  | er e=>rw[ht]at h;cases h
  | ok c t=>obtain⟨rfl,hc⟩:=q83 ht;simp only[Bool.and_eq_true]at hc;simp[zu9,hc.1]
theorem jo (t:List UInt8):qp0 (45 ::t)=(qo9 true t).bind fun d r=> .ok (true,d) r:=rfl
theorem jo0 {c:UInt8} (h:c≠45) (t:List UInt8):qp0 (c ::t)=(qo9 false (c ::t)).bind fun d r=> .ok (false,d) r:=by unfold qp0;rw[if_neg (by simpa using h)]
theorem Good.number:Good q39:=by
 refine⟨fun s=>⟨fun v r h=> ?_,fun r h=> ?_⟩,.inl rfl⟩
 ·unfold q39 at h;cases hs:qp0 s with
  | er e=>rw[hs]at h;cases h
  | ok x k=>
   rw[hs]at h;simp only at h
   split at h
   ·rename_i hx;cases h;obtain⟨p,rfl,h1⟩:=(Good.sig.at_ s).ok x r hs;refine⟨p,rfl,fun r' hr=> ?_⟩;unfold q39;rw[h1 r' hr];simp only[if_pos hx]
   ·cases h
 ·unfold q39 at h;cases hs:qp0 s with
  | er e=>
   rw[hs]at h;cases h;obtain⟨p,rfl,h1⟩:=(Good.sig.at_ s).er r hs;refine⟨p,rfl,fun hn=> ?_⟩;obtain⟨h2,h3⟩:=h1 hn;refine⟨fun r' hr=> ?_,?_⟩
   ·unfold q39;rw[h2 r' hr]
   ·rcases h3 with h3 | ⟨v,h3⟩
    ·left;unfold q39;rw[h3]
    ·exfalso;have hn2:=jr1 h3;cases p with
     | nil=>simp at hn2
     | cons c p=>
      simp only[List.cons_append]at hs;by_cases h45:c=45
      ·subst h45;rw[jo]at hs h3;unfold qo9 at hs h3;cases p with
       | nil=>cases h3
       | cons d p=>
        simp only[List.cons_append,q19]at hs h3
        split at hs
        ·simp only[PR.bind]at hs
         split at hs
         ·cases hs
         ·rename_i hq;split at hq <;> cases hq
        ·rename_i hh;rw[if_neg hh]at h3;cases h3
      ·rw[jo0 h45]at h3 hs;unfold qo9 at hs h3;simp only[q19]at hs h3
       split at hs
       ·simp only[PR.bind]at hs
        split at hs
        ·cases hs
        ·rename_i hq;split at hq <;> cases hq
       ·rename_i hh;rw[if_neg hh]at h3;cases h3
  | ok x k=>
   rw[hs]at h;simp only at h
   split at h
   ·cases h
   ·cases h;refine⟨[],rfl,fun hn=> ?_⟩;rw[jr1 hs]at hn;cases hn
theorem Good.list {P:Pa JV} (hP:Good P) (obj:Bool):Good (q74 P obj):=by
 have h:Good (fun s=>(fun s1:List UInt8=>if s1.head? =some (if obj then 125 else 93)then PR.ok ([],[]) s1.tail else q89 P obj s1) (jsp s)):=
  Good.ofsp (Good.choice _ (P:=fun s=>PR.ok ([],[]) s.tail) (Q:=q89 P obj) (R:=fun t=>PR.ok ([],[]) t) (fun _=>rfl) (Good.pure _) (Good.many hP obj))
 exact h
theorem Good.val1 {P:Pa JV} (hP:Good P):Good (qi8 P):=by unfold qi8;refine Good.choice 110 (R:=fun t=>(q86 [117,108,108] t).bind fun _ r=> .ok (.mk 0 0 ⟨#[]⟩ [] []) r) (fun t=>rfl) ((Good.word _).bind fun _=>Good.pure _) ?_;refine Good.choice 102 (R:=fun t=>(q86 [97,108,115,101] t).bind fun _ r=> .ok (.mk 1 0 ⟨#[]⟩ [] []) r) (fun t=>rfl) ((Good.word _).bind fun _=>Good.pure _) ?_;refine Good.choice 116 (R:=fun t=>(q86 [114,117,101] t).bind fun _ r=> .ok (.mk 2 0 ⟨#[]⟩ [] []) r) (fun t=>rfl) ((Good.word _).bind fun _=>Good.pure _) ?_;refine Good.choice 34 (R:=fun t=>(qa0 t).bind fun t r=> .ok (.mk 4 0 (tob t) [] []) r) (fun t=>rfl) (Good.txt.bind fun _=>Good.pure _) ?_;refine Good.choice 91 (R:=fun t=>(q74 P false t).bind fun x r=> .ok (.mk 5 0 ⟨#[]⟩ x.1 (x.2.map tob)) r) (fun t=>rfl) ((Good.list hP false).bind fun _=>Good.pure _) ?_;refine Good.choice 123 (R:=fun t=>(q74 P true t).bind fun x r=> .ok (.mk 6 0 ⟨#[]⟩ x.1 (x.2.map tob)) r) (fun t=>rfl) ((Good.list hP true).bind fun _=>Good.pure _) ?_;exact Good.number.bind fun _=>Good.pure _
theorem Good.fail:Good (fun s:List UInt8=>PR.er (α:=JV) s):=by refine⟨fun s=>⟨(fun v r h=>by cases h),fun r h=> ?_⟩,.inl rfl⟩;cases h;exact⟨[],rfl,fun _=>⟨fun r' _=>rfl,.inl rfl⟩⟩
theorem Good.value:∀d,Good (q08 d)
 | 0=>Good.ofsp Good.fail
 | d+1=>by
  have h:Good (fun s=>(fun s=>qi8 (q08 d) (jsp s)) s |>.bind fun v r=>(fun r=>PR.ok () (jsp r)) r |>.bind fun _ r=>PR.ok v r):=
   (Good.val1 (Good.value d)).ofsp.bind fun v=>Good.sp.bind fun _=>Good.pure v
  exact h
end Go.Proofs.YtlfjhgamlkbofaaGreatDoor.Js
namespace Go.Proofs.YtlfjhgamlkbofaaGreatDoor
open Go.RowKit
theorem q02 {P:Program} {fn:Func} {p u:Tmp} {ty:TypeId} (h:fn.results= #[.cell p ty,.tmp u]) (tmps:Array Value) (w:World) (g:Nat) (t:TypeId) (cs:Array Value) (d:TypeDesc)
  (hp:tmps.getD p undef=.pointer (some ⟨g,0,none⟩)) (hg:Blk w g t cs) (hu:P.underlying ty=some d) (hd:(match d with | .struct _ | .array _ _=>true | _=>false)=true) (hi:(P.info? ty).map (·.size)=some cs.size):
  (results fn tmps).run P w=.ok (.tuple #[.agg cs,tmps.getD u undef]) w:=by
 rw[results_cell_tmp h,hp];show((loadVar ty ⟨g,0,none⟩).run P w).andThen _=_;rw[run_loadVar_row w g t ty cs (0,0) d hg hu hd hi];rfl
theorem z88 (cs vs:Array Value) (h:cs.size=vs.size):∀k,k≤vs.size→(((List.range k).foldl (fun c i=>c.setIfInBounds i (vs.getD i undef)) cs).size=vs.size∧
  ∀i,i < vs.size→((List.range k).foldl (fun c i=>c.setIfInBounds i (vs.getD i undef)) cs)[i]? =if i < k then vs[i]? else cs[i]?):=by
 intro k;induction k with
 | zero=>intro _;exact⟨by simpa using h,fun i hi=>by simp⟩
 | succ k ih=>
  intro hk;obtain⟨h1,h2⟩:=ih (by omega);rw[List.range_succ,List.foldl_append];simp only[List.foldl_cons,List.foldl_nil];refine⟨by simpa using h1,fun i hi=> ?_⟩;rw[Array.getElem?_setIfInBounds];by_cases e:k=i
  ·subst e;rw[if_pos rfl,if_pos (by omega),if_pos (by omega)];simp[Array.getD,hi]
  ·rw[if_neg e,h2 i hi];by_cases h3:i < k
   ·rw[if_pos h3,if_pos (by omega)]
   ·rw[if_neg h3,if_neg (by omega)]
theorem j59 (cs vs:Array Value) (n:Nat) (h:cs.size=n) (k:vs.size=n):(List.range n).foldl (fun c i=>c.setIfInBounds i (vs.getD i undef)) cs=vs:=by
 subst k;obtain⟨h1,h2⟩:=z88 cs vs h vs.size (Nat.le_refl _);apply Array.ext_getElem?;intro i;by_cases hi:i < vs.size
 ·rw[h2 i hi,if_pos hi]
 ·rw[Array.getElem?_eq_none (by omega),Array.getElem?_eq_none (by omega)]
theorem Blk.sets {w:World} {g:Nat} {t:TypeId} {cs:Array Value} (h:Blk w g t cs) (vs:Nat→Value):∀l:List Nat,Blk (l.foldl (fun w i=>w.setCell ⟨g,i,none⟩ (vs i)) w) g t (l.foldl (fun c i=>c.setIfInBounds i (vs i)) cs)
 | []=>h
 | i ::l=>Blk.sets (h.set_ i (vs i)) vs l
theorem Mod.sets {F:List Nat} {a w:World} {g:Nat} (h:Mod F a w) (hg:g∈F∨a.heap.size≤g) (vs:Nat→Value):∀l:List Nat,Mod F a (l.foldl (fun w i=>w.setCell ⟨g,i,none⟩ (vs i)) w)
 | []=>h
 | i ::l=>Mod.sets (h.setCell (p:=⟨g,i,none⟩) hg (vs i)) hg vs l
end Go.Proofs.YtlfjhgamlkbofaaGreatDoor
namespace Go.Proofs.YtlfjhgamlkbofaaGreatDoor
open Go.RowKit Js
theorem q12 (x:ByteArray):x.data.toList.length=x.size:=Array.length_toList
inductive JN where
 | mk (k i:Int) (t:ByteArray) (A:Option Addr) (c:Nat) (l:List JN) (B:Option Addr) (d:Nat) (ks:List ByteArray)
def JN.cells:JN→Array Value
 | .mk k i t A c l B d ks=> #[.int .i64 k,.int .i64 i,.string t,.slice A l.length c,.slice B ks.length d]
theorem JN.cells_size (x:JN):x.cells.size=5:=by cases x;rfl
mutual
def JN.v:JN→JV
 | .mk k i t _ _ l _ _ ks=> .mk k i t (JN.vs l) ks
def JN.vs:List JN→List JV
 | []=> []
 | x ::l=>x.v ::JN.vs l
end
theorem JN.vs_len:∀l:List JN,(JN.vs l).length=l.length
 | []=>rfl
 | x ::l=>by rw[JN.vs,List.length_cons,List.length_cons,JN.vs_len l]
theorem JN.vs_at:∀(l:List JN) (j:Nat),(JN.vs l)[j]? =(l[j]?).map JN.v
 | [],j=>rfl
 | x ::l,0=>rfl
 | x ::l,j+1=>by rw[JN.vs,List.getElem?_cons_succ,List.getElem?_cons_succ,JN.vs_at l j]
theorem JN.vs_app:∀(l m:List JN),JN.vs (l++ m)=JN.vs l++ JN.vs m
 | [],m=>rfl
 | x ::l,m=>by rw[List.cons_append,JN.vs,JN.vs,JN.vs_app l m,List.cons_append]
def KeysAt (w:World) (B:Option Addr) (ks:List ByteArray):Prop:=
 ks= []∨∃g o,B=some ⟨g,o,none⟩∧g < w.heap.size∧∀j x,ks[j]? =some x→w.cell? ⟨g,o+j,none⟩=some (.string x)
def RowAt (w:World) (A:Option Addr) (l:List JN):Prop:=
 l= []∨∃g o,A=some ⟨g,o,none⟩∧g < w.heap.size∧∀j x,l[j]? =some x→∀i u,x.cells[i]? =some u→w.cell? ⟨g,o+j * 5+i,none⟩=some u
def q99:Nat:=140737488355328
mutual
def JIn (w:World):JN→Prop
 | .mk k i t A c l B d ks=>(l.length≤q99∧ks.length≤q99∧ks.length≤d)∧KeysAt w B ks∧RowAt w A l∧JIns w l
def JIns (w:World):List JN→Prop
 | []=>True
 | x ::l=>JIn w x∧JIns w l
end
theorem KeysAt.new {w w':World} {B:Option Addr} {ks:List ByteArray} (h:KeysAt w B ks) (m:Mod [] w w'):KeysAt w' B ks:=by
 rcases h with h | ⟨g,o,h1,h2,h3⟩
 ·exact .inl h
 ·exact .inr ⟨g,o,h1,Nat.lt_of_lt_of_le h2 m.size,fun j x hx=>(m.cell (p:=⟨g,o+j,none⟩) h2 (by simp)).trans (h3 j x hx)⟩
theorem RowAt.new {w w':World} {A:Option Addr} {l:List JN} (h:RowAt w A l) (m:Mod [] w w'):RowAt w' A l:=by
 rcases h with h | ⟨g,o,h1,h2,h3⟩
 ·exact .inl h
 ·exact .inr ⟨g,o,h1,Nat.lt_of_lt_of_le h2 m.size,fun j x hx i u hu=>(m.cell (p:=⟨g,o+j * 5+i,none⟩) h2 (by simp)).trans (h3 j x hx i u hu)⟩
mutual
theorem JIn.new {w w':World} (m:Mod [] w w'):∀ {x:JN},JIn w x→JIn w' x
 | .mk k i t A c l B d ks,h=>by
  rw[JIn]at h ⊢
  exact⟨h.1,h.2.1.new m,h.2.2.1.new m,JIns.new m h.2.2.2⟩
theorem JIns.new {w w':World} (m:Mod [] w w'):∀ {l:List JN},JIns w l→JIns w' l
 | [],_=>trivial
 | x ::l,h=>by
  rw[JIns]at h ⊢
  exact⟨JIn.new m h.1,JIns.new m h.2⟩
end
theorem JIns.at_ {w:World} :∀ {l:List JN} {j:Nat} {x:JN},JIns w l→l[j]? =some x→JIn w x
 | [],j,x,_,h=>by simp at h
 | y ::l,0,x,h,hj=>by
  cases hj
  rw[JIns]at h
  exact h.1
 | y ::l,j+1,x,h,hj=>by
  rw[JIns]at h
  exact JIns.at_ h.2 (by simpa using hj)
theorem JIns.of {w:World} :∀ {l:List JN},(∀x∈l,JIn w x)→JIns w l
 | [],_=>trivial
 | y ::l,h=>by
  rw[JIns]
  exact⟨h y (by simp),JIns.of fun x hx=>h x (by simp[hx])⟩
theorem KeysAt.at_ {w:World} {B:Option Addr} {ks:List ByteArray} (h:KeysAt w B ks) {j:Nat} {x:ByteArray} (hj:ks[j]? =some x):∃g o,B=some ⟨g,o,none⟩∧g < w.heap.size∧w.cell? ⟨g,o+j,none⟩=some (.string x):=by
 rcases h with rfl | ⟨g,o,h1,h2,h3⟩
 ·simp at hj
 ·exact⟨g,o,h1,h2,h3 j x hj⟩
theorem RowAt.at_ {w:World} {A:Option Addr} {l:List JN} (h:RowAt w A l) {j:Nat} {x:JN} (hj:l[j]? =some x):∃g o,A=some ⟨g,o,none⟩∧g < w.heap.size∧∀i u,x.cells[i]? =some u→w.cell? ⟨g,o+j * 5+i,none⟩=some u:=by
 rcases h with rfl | ⟨g,o,h1,h2,h3⟩
 ·simp at hj
 ·exact⟨g,o,h1,h2,h3 j x hj⟩
theorem JIn.plain (w:World) (k i:Int) (t:ByteArray):JIn w (.mk k i t none 0 [] none 0 []):=by rw[JIn];exact⟨⟨Nat.zero_le _,Nat.zero_le _,Nat.zero_le _⟩,.inl rfl,.inl rfl,trivial⟩
end Go.Proofs.YtlfjhgamlkbofaaGreatDoor
namespace Go.Proofs.YtlfjhgamlkbofaaGreatDoor
open Go.RowKit
def j52:Go.Shelf.Ren:=⟨fun | 166=>80 | 167=>161 | 240=>119 | 276=>153 | 169=>81 | n=>n,fun | 0=>0 | 3=>3 | 4=>4 | 5=>5 | 9=>9 | 20=>20 | 37=>100 | 70=>99 | 72=>102 | 75=>104 | 80=>107 | 127=>145 | 164=>174 | n=>n,fun n=>n⟩
theorem j66:Go.Proofs.Lays.n166 Tryz.prog j52:= {
 mixed:=by kernel_rfl,
 f166:=Tryz.func80.trans (congrArg some (by kernel_rfl)),
 f240:=Tryz.func119.trans (congrArg some (by kernel_rfl)),
 f276:=Tryz.func153.trans (congrArg some (by kernel_rfl)),
 t0:=Tryz.underlying0,
 a0:=Tryz.isAgg0,
 z0:=Tryz.sizeOf0,
 v0:=Tryz.zeroValue0,
 t3:=Tryz.underlying3,
 a3:=Tryz.isAgg3,
 z3:=Tryz.sizeOf3,
 v3:=Tryz.zeroValue3,
 t4:=Tryz.underlying4,
 a4:=Tryz.isAgg4,
 z4:=Tryz.sizeOf4,
 v4:=Tryz.zeroValue4,
 t9:=Tryz.underlying9,
 a9:=Tryz.isAgg9,
 z9:=Tryz.sizeOf9,
 v9:=Tryz.zeroValue9,
 t20:=Tryz.underlying20,
 a20:=Tryz.isAgg20,
 z20:=Tryz.sizeOf20,
 v20:=Tryz.zeroValue20,
 t37:=Tryz.underlying100,
 a37:=Tryz.isAgg100,
 z37:=Tryz.sizeOf100,
 v37:=Tryz.zeroValue100,
 t70:=Tryz.underlying99,
 a70:=Tryz.isAgg99,
 z70:=Tryz.sizeOf99,
 v70:=Tryz.zeroValue99,
 t72:=Tryz.underlying102,
 a72:=Tryz.isAgg102,
 z72:=Tryz.sizeOf102,
 v72:=Tryz.zeroValue102,
 t75:=Tryz.underlying104,
 a75:=Tryz.isAgg104,
 z75:=Tryz.sizeOf104,
 v75:=Tryz.zeroValue104,
 t164:=Tryz.underlying174,
 a164:=Tryz.isAgg174,
 z164:=Tryz.sizeOf174,
 v164:=Tryz.zeroValue174 }
theorem jl9:Go.Proofs.Lays.n169 Tryz.prog j52:= {
 mixed:=by kernel_rfl,
 f169:=Tryz.func81.trans (congrArg some (by kernel_rfl)),
 t0:=Tryz.underlying0,
 a0:=Tryz.isAgg0,
 z0:=Tryz.sizeOf0,
 v0:=Tryz.zeroValue0,
 t3:=Tryz.underlying3,
 a3:=Tryz.isAgg3,
 z3:=Tryz.sizeOf3,
 v3:=Tryz.zeroValue3,
 t9:=Tryz.underlying9,
 a9:=Tryz.isAgg9,
 z9:=Tryz.sizeOf9,
 v9:=Tryz.zeroValue9,
 t37:=Tryz.underlying100,
 a37:=Tryz.isAgg100,
 z37:=Tryz.sizeOf100,
 v37:=Tryz.zeroValue100,
 t70:=Tryz.underlying99,
 a70:=Tryz.isAgg99,
 z70:=Tryz.sizeOf99,
 v70:=Tryz.zeroValue99,
 t72:=Tryz.underlying102,
 a72:=Tryz.isAgg102,
 z72:=Tryz.sizeOf102,
 v72:=Tryz.zeroValue102,
 t127:=Tryz.underlying145,
 a127:=Tryz.isAgg145,
 z127:=Tryz.sizeOf145,
 v127:=Tryz.zeroValue145 }
theorem zc0:Go.Proofs.Lays.n167 Tryz.prog j52:= {
 mixed:=by kernel_rfl,
 f167:=Tryz.func161.trans (congrArg some (by kernel_rfl)),
 f240:=Tryz.func119.trans (congrArg some (by kernel_rfl)),
 f276:=Tryz.func153.trans (congrArg some (by kernel_rfl)),
 t0:=Tryz.underlying0,
 a0:=Tryz.isAgg0,
 z0:=Tryz.sizeOf0,
 v0:=Tryz.zeroValue0,
 t4:=Tryz.underlying4,
 a4:=Tryz.isAgg4,
 z4:=Tryz.sizeOf4,
 v4:=Tryz.zeroValue4,
 t5:=Tryz.underlying5,
 a5:=Tryz.isAgg5,
 z5:=Tryz.sizeOf5,
 v5:=Tryz.zeroValue5,
 t9:=Tryz.underlying9,
 a9:=Tryz.isAgg9,
 z9:=Tryz.sizeOf9,
 v9:=Tryz.zeroValue9,
 t20:=Tryz.underlying20,
 a20:=Tryz.isAgg20,
 z20:=Tryz.sizeOf20,
 v20:=Tryz.zeroValue20,
 t37:=Tryz.underlying100,
 a37:=Tryz.isAgg100,
 z37:=Tryz.sizeOf100,
 v37:=Tryz.zeroValue100,
 t70:=Tryz.underlying99,
 a70:=Tryz.isAgg99,
 z70:=Tryz.sizeOf99,
 v70:=Tryz.zeroValue99,
 t72:=Tryz.underlying102,
 a72:=Tryz.isAgg102,
 z72:=Tryz.sizeOf102,
 v72:=Tryz.zeroValue102,
 t75:=Tryz.underlying104,
 a75:=Tryz.isAgg104,
 z75:=Tryz.sizeOf104,
 v75:=Tryz.zeroValue104,
 t164:=Tryz.underlying174,
 a164:=Tryz.isAgg174,
 z164:=Tryz.sizeOf174,
 v164:=Tryz.zeroValue174 }
theorem bldX:Go.Proofs.Builder.Extra Tryz.prog j52:= {
 sizeBuilder:=by kernel_rfl,
 liesBuilder:=by kernel_rfl,
 t5:=Tryz.underlying5,
 a5:=Tryz.isAgg5,
 z5:=Tryz.sizeOf5,
 v5:=Tryz.zeroValue5,
 infoByte:=by kernel_rfl,
 cellsByte:=by kernel_rfl,
 sizeByte:=by kernel_rfl,
 neB5:=by decide }
def BldO (w:World) (B b:Nat) (l:List UInt8):Prop:=Lib.IsBuilderF 102 5 B b (l.map bv) w
theorem BldO.new (w:World) (B:Nat) (hB:B≤w.heap.size):BldO (w.alloc (.cells #[.pointer none,.slice none 0 0] 102)) B w.heap.size []:=
 .inl (Lib.BuilderAtF.of (T:=102) (e:=5) (p:=.pointer none) (bs:= []) ⟨hB,_,heap_alloc_new w _,World.ownsRow_nil _ _ _ _,by simp[Value.ownBlock]⟩)
structure BStep (B b:Nat) (w w':World):Prop where
 below:Below B w w'
 others:Lib.OthersKept 5 (some b) w w'
theorem BStep.blk {B b g:Nat} {w w':World} {t:TypeId} {cs:Array Value} (h:BStep B b w w') (hb:Blk w g t cs) (hg:g≠b) (ht:t≠5):Blk w' g t cs:=
 h.others g _ hb (fun e=>hg (Option.some.inj e)) (fun c fz e=>by cases e;exact ht rfl)
theorem BStep.mod {B b:Nat} {W w w':World} (h:BStep B b w w') (hm:Mod [] W w) (hB:W.heap.size≤B):Mod [] W w':=
 ⟨h.below.os.trans hm.os,h.below.tape.trans hm.tape,h.below.output.trans hm.output,Nat.le_trans hm.size h.below.size,fun k hk _=>
  (h.below.block k (by omega)).trans (hm.block k hk (by simp))⟩
theorem BldO.fresh {w:World} {B b:Nat} (h:Blk w b 102 #[.pointer none,.slice none 0 0]) (hB:B≤b):BldO w B b []:=
 .inl (Lib.BuilderAtF.of (T:=102) (e:=5) (p:=.pointer none) (bs:= []) ⟨hB,_,h,World.ownsRow_nil _ _ _ _,by simp[Value.ownBlock]⟩)
theorem BldO.mod {F:List Nat} {w w':World} {B b:Nat} {l:List UInt8} (h:BldO w B b l) (hm:Mod F w w') (hF:∀g∈F,g≠b∧∀cs fz,w.heap[g]?≠some (.cells cs 5 fz)):BldO w' B b l:=by
 have key:∀p,Lib.BuilderAtF 102 5 B b p (l.map bv) w→Lib.BuilderAtF 102 5 B b p (l.map bv) w':=by
  rintro p ⟨hB,v,hb,⟨ho1,ho2⟩,hne⟩;refine⟨hB,v,(hm.block b (Array.getElem?_eq_some_iff.1 hb).1 (fun hf=>(hF b hf).1 rfl)).trans hb,⟨ho1,?_⟩,hne⟩;rcases ho2 with h0 | ⟨g,cap,cur,fz,hv,hg,hh,rest⟩
  ·exact .inl h0
  ·exact .inr ⟨g,cap,cur,fz,hv,hg,(hm.block g (Array.getElem?_eq_some_iff.1 hh).1 (fun hf=>(hF g hf).2 _ _ hh)).trans hh,rest⟩
 rcases h with h | h
 ·exact .inl (key _ h)
 ·exact .inr (key _ h)
theorem BldO.lt {w:World} {B b:Nat} {l:List UInt8} (h:BldO w B b l):b < w.heap.size:=by rcases h with⟨_,v,hb,_⟩ | ⟨_,v,hb,_⟩ <;> exact(Array.getElem?_eq_some_iff.1 hb).1
theorem BldO.blk {w:World} {B b:Nat} {l:List UInt8} (h:BldO w B b l):∃cs,Blk w b 102 cs:=by rcases h with⟨_,v,hb,_⟩ | ⟨_,v,hb,_⟩ <;> exact⟨_,hb⟩
theorem q54 (w:World) (B b:Nat) (l:List UInt8) (s:ByteArray) (h:BldO w B b l) (hl:l.length+s.size≤140737488355328) (hB:B≤w.heap.size):
  Calls Tryz.prog 80 #[.pointer (some ⟨b,0,none⟩),.string s] w fun e w'=>e=.returned (.tuple #[.int .i64 s.size,.nilIface])∧BldO w' B b (l++ s.data.toList)∧BStep B b w w':=by
 have hc:Calls Tryz.prog 80 #[.pointer (some ⟨b,0,none⟩),.string s] w _:=Any.Builder_WriteString_k j66 bldX B b (l.map bv) s w h (by simpa using hl) hB;refine hc.mono ?_;rintro e w' ⟨rfl,h1,h2,h3⟩;refine⟨rfl,?_,⟨h2,h3⟩⟩;refine .inr ?_;rw[List.map_append];exact h1
theorem j07 (w:World) (B b:Nat) (l:List UInt8) (c:UInt8) (h:BldO w B b l) (hl:l.length+1≤140737488355328) (hB:B≤w.heap.size):
  Calls Tryz.prog 161 #[.pointer (some ⟨b,0,none⟩),.int .u8 (c.toNat:Int)] w fun e w'=>e=.returned .nilIface∧BldO w' B b (l++ [c])∧BStep B b w w':=by
 have hc:Calls Tryz.prog 161 #[.pointer (some ⟨b,0,none⟩),.int .u8 (c.toNat:Int)] w _:=Any.Builder_WriteByte_k zc0 bldX B b (l.map bv) (c.toNat:Int) w h (by simpa using hl) hB;refine hc.mono ?_;rintro e w' ⟨rfl,h1,h2,h3⟩;refine⟨rfl,?_,⟨h2,h3⟩⟩;refine .inr ?_;rw[List.map_append];exact h1
theorem qb1 (w:World) (B b:Nat) (l:List UInt8) (h:BldO w B b l) (hB:B≤w.heap.size):
  Calls Tryz.prog 81 #[.pointer (some ⟨b,0,none⟩)] w fun e w'=>e=.returned (str l)∧BStep B b w w':=by
 have hc:Calls Tryz.prog 81 #[.pointer (some ⟨b,0,none⟩)] w _:=Any.Builder_String_any_k jl9 bldX B b l w h hB;refine hc.mono ?_;rintro e w' ⟨rfl,h1,h2,h3⟩;exact⟨rfl,⟨h2,h3⟩⟩
end Go.Proofs.YtlfjhgamlkbofaaGreatDoor
namespace Go.Proofs.YtlfjhgamlkbofaaGreatDoor
open Go.RowKit
section
variable {P:Program} {ops:Array Oper} {Q:Exit→Act→World→Prop} {md:Region.Mode} {S:World→Prop}
theorem q04 {i:Nat} {oi:Oper} {v:Value} {fuel:Nat} {listed:Array Bool} {a:Act} {w:World} (d:Nat) (hi:ops[i]? =some oi) (hd:oi.dst=some d)
  (hs:Region.noSelect ops=true) (hf:Region.free md ops listed i=true) (hr:(Region.ready md ops listed).contains i=true)
  (hQ:∀c a w,Q (.panic c) (a.put (some d) v) w→Q (.panic c) a w) (hy:YieldsIf P ops S oi v a) (hS:S w)
  (h:wpAnyH P md ops Q S fuel (listed.setIfInBounds i true) (a.put (some d) v) w):wpAnyH P md ops Q S (fuel+1) listed a w:=
 wpAnyH_take hi hs hf hr (by rw[hd];exact hQ) hy hS (by rw[hd];exact h)
end
section
variable {P:Program}
theorem q06 {ops:Array Oper} {rest:List Oper} {op:Oper} {a:Act} {w:World} {Q:Exit→Act→World→Prop} (hgd:op.guard=none) (ty:TypeId) (x y:Operand) (ho:op.op=.store ty x y) (hd:op.dst=none)
  (c c':Array Value) (hx:a.eval x=.pointer (some ⟨w.heap.size,0,none⟩)) (hy:a.eval y=.agg c') (hi:(P.info? ty).map (·.size)=some c'.size) (hold:c.size=c'.size) (h1:c'.all (·.oneCell')=true)
  (h:∀w6,Mod [] w w6→Blk w6 w.heap.size ty c'→w6.heap.size=w.heap.size+1→wpList P ops Q rest a w6):wpList P ops Q (op ::rest) a (w.alloc (.cells c ty)):=by
 refine wpList_store_rowTo hgd ty x y ho hd w.heap.size c' hx hy ty c (heap_alloc_new w _) hi hold h1 ?_;rw[World.setRow_alloc_new];exact h _ ((Mod.refl [] w).alloc _) (Blk.new w ty c') (World.size_alloc _ _)
theorem Blk.range {w:World} {g:Nat} {t:TypeId} {cs:Array Value} (h:Blk w g t cs):w.rangeAt g 0 cs.toList:=fun j v hv=>by have:=h.cell j;rw[Nat.zero_add,this];simpa using hv
end
section
open Go.ChangeShapes Go.WideShapes Go.Deep
variable {H:Type} {enc:TypeId×Value→H} {P:Program} {w:World} {base:Nat} {spare:Nat→Bool} {held:Bool}
end
theorem j81 {α:Type} {n:Nat} {P:Nat→α→Prop} (h:∀i,i < n→∃x,P i x):∃l:List α,l.length=n∧∀i x,l[i]? =some x→P i x:=by
 induction n with
 | zero=>exact⟨[],rfl,fun i x hx=>by simp at hx⟩
 | succ n ih=>
  obtain⟨l,hl,hp⟩:=ih (fun i hi=>h i (by omega));obtain⟨x,hx⟩:=h n (by omega);refine⟨l++ [x],by simp[hl],fun i y hy=> ?_⟩;by_cases hi:i < n
  ·rw[List.getElem?_append_left (by omega)]at hy;exact hp i y hy
  ·have:i=n:=by have:=(List.getElem?_eq_some_iff.1 hy).1;simp at this;omega
   subst this;rw[List.getElem?_append_right (by omega),hl]at hy;simp at hy;subst hy;exact hx
structure Elems {α:Type} (w:World) (A:Option Addr) (cells:α→List Value) (sz:Nat) (l:List α):Prop where
 len:l.length≤9223372036854775807
 row:l= []∨∃g o,A=some ⟨g,o,none⟩∧g < w.heap.size∧∀i y,l[i]? =some y→∀j u,(cells y)[j]? =some u→w.cell? ⟨g,o+i * sz+j,none⟩=some u
theorem Elems.new {α:Type} {w w':World} {A:Option Addr} {cells:α→List Value} {sz:Nat} {l:List α} (h:Elems w A cells sz l) (m:Mod [] w w'):Elems w' A cells sz l:=by
 refine⟨h.len,?_⟩;rcases h.row with h0 | ⟨g,o,hA,hg,hc⟩
 ·exact .inl h0
 ·exact .inr ⟨g,o,hA,Nat.lt_of_lt_of_le hg m.size,fun i v hv j u hu=>(m.cell (p:=⟨g,o+i * sz+j,none⟩) hg (by simp)).trans (hc i v hv j u hu)⟩
theorem Elems.at_ {α:Type} {w:World} {A:Option Addr} {cells:α→List Value} {sz:Nat} {l:List α} (h:Elems w A cells sz l) {i:Nat} {y:α} (hy:l[i]? =some y):
  ∃g o,A=some ⟨g,o,none⟩∧g < w.heap.size∧∀j u,(cells y)[j]? =some u→w.cell? ⟨g,o+i * sz+j,none⟩=some u:=by
 rcases h.row with h0 | ⟨g,o,hA,hg,hc⟩
 ·rw[h0]at hy;simp at hy
 ·exact⟨g,o,hA,hg,hc i y hy⟩
section
open Go.ChangeShapes Go.WideShapes Go.Deep
variable {H:Type} {enc:TypeId×Value→H} {P:Program} {w:World} {base:Nat} {held:Bool}
end
def jb1 (md:Region.Mode) (ops:Array Oper):List Oper→Nat→Bool
 | [],_=>true
 | o ::l,k=>(o.after.toList.all fun e=> !Region.binds md e || Nat.blt e.on k) && (l.all fun oj=>oj.after.any (fun e=>Region.binds md e && e.on==k) || o.apart ops oj) && jb1 md ops l (k+1)
theorem j36 {md:Region.Mode} {ops:Array Oper} :∀(l:List Oper) (k:Nat) (listed:Array Bool),(∀j,l[j]? =ops[k+j]?)→k+l.length=ops.size→listed.size=ops.size→
  (∀i,i < ops.size→listed[i]? =some (decide (i < k)))→jb1 md ops l k=true→Region.lexFrom md ops l.length k listed=true
 | [],k,listed,_,hk,hs,hp,_=>by
  simp only[List.length_nil,Region.lexFrom,List.isEmpty_iff,Region.ready,List.filter_eq_nil_iff,List.mem_range]
  intro i hi
  have h1:=hp i hi
  have h2:i < k:=by simp at hk;omega
  rw[decide_eq_true h2]at h1
  rw[Array.getD_eq_getD_getElem?,h1]
  simp
 | o ::l,k,listed,hl,hk,hs,hp,hc=>by
  simp only[jb1,Bool.and_eq_true]at hc
  obtain⟨⟨c1,c2⟩,c3⟩:=hc
  have hkn:k < ops.size:=by simp at hk;omega
  have h0:ops[k]? =some o:=by have:=hl 0;simpa using this.symm
  simp only[List.length_cons,Region.lexFrom,Bool.and_eq_true]
  refine⟨⟨?_,?_⟩,?_⟩
  ·rw[List.contains_iff_mem]
   simp only[Region.ready,List.mem_filter,List.mem_range]
   refine⟨hkn,?_⟩
   have h1:=hp k hkn
   rw[decide_eq_false (Nat.lt_irrefl k)]at h1
   rw[Array.getD_eq_getD_getElem?,h1,h0]
   simp only[Option.getD_some,Bool.not_false,Bool.true_and,Option.map_some]
   rw[Array.all_eq_true_iff_forall_mem]
   intro e he
   have:=List.all_eq_true.1 c1 e (by simpa using he)
   rw[Bool.or_eq_true]at this ⊢
   rcases this with h | h
   ·exact .inl h
   ·right
    have hlt:e.on < k:=by simpa using h
    have h2:=hp e.on (by omega)
    rw[decide_eq_true hlt]at h2
    rw[Array.getD_eq_getD_getElem?,h2]
    rfl
  ·unfold Region.free
   rw[h0]
   simp only[List.all_eq_true,List.mem_range]
   intro j hj
   have h1:=hp j hj
   by_cases hjk:j=k
   ·simp[hjk]
   ·by_cases hlt:j < k
    ·rw[decide_eq_true hlt]at h1
     rw[Array.getD_eq_getD_getElem?,h1]
     simp
    ·have hoj:∃oj,ops[j]? =some oj:=⟨_,Array.getElem?_eq_getElem hj⟩
     obtain⟨oj,hoj⟩:=hoj
     have h2:=hl (j - k)
     rw[show k+(j - k)=j by omega,hoj,show j - k=(j - k - 1)+1 by omega,List.getElem?_cons_succ]at h2
     have h3:=List.all_eq_true.1 c2 oj (List.mem_of_getElem? h2)
     rw[hoj]
     simp only[Bool.or_eq_true]at h3 ⊢
     right
     exact h3
  ·refine j36 l (k+1) _ (fun j=> ?_) (by simp at hk;omega) (by simpa using hs) (fun i hi=> ?_) c3
   ·have:=hl (j+1)
    rw[List.getElem?_cons_succ]at this
    rw[this]
    congr 1
    omega
   ·rw[Array.getElem?_setIfInBounds]
    by_cases e:k=i
    ·subst e
     rw[if_pos rfl,if_pos (by omega),decide_eq_true (by omega)]
    ·rw[if_neg e,hp i hi]
     congr 1
     rw[Bool.eq_iff_iff]
     simp only[decide_eq_true_eq]
     omega
theorem zg1 {md:Region.Mode} {l:List Oper} (hs:Region.noSelect l.toArray=true) (h:jb1 md l.toArray l 0=true):Region.lexB md l.toArray=true:=by unfold Region.lexB;rw[hs,Bool.true_and];have:=j36 (md:=md) (ops:=l.toArray) l 0 (Array.replicate l.toArray.size false) (fun j=>by simp) (by simp) (by simp) (fun i hi=>by simp at hi;simp[hi]) h;simpa using this
open Go.Sort in
theorem q45 {P:Program} {id:Nat} {Q:Exit→Act→World→Prop} {a:Act} {w:World} {l:List Oper} (hm:P.follows .mixedOrders=true) (hs:Region.noSelect l.toArray=true) (hB:jb1 .any l.toArray l 0=true)
  (h:wpQuiet P l.toArray (fun w'=>∃p:Regrown,w'=grow (redrawn w p.d) p.os) (fun a'=>∀w',(∃p:Regrown,w'=grow (redrawn w p.d) p.os)→Q .normal a' w') l a):(Code.region id l.toArray true).wp P Q a w:=
 wp_region_quiet_below hm (zg1 hs hB) h
def q66 (q:IntKind) (x:Int) (e:MapEntry):Bool:=match e.key with | .int k y=>decide (k=q) && (x==y) | _=>false
structure Ents (q:IntKind) (es:List MapEntry) (clock:Nat):Prop where
 keys:∀e∈es,∃x,e.key=.int q x
 apart:es.Pairwise (fun a b=>a.key≠b.key)
 born:∀e∈es,e.born < clock
 stamps:(es.map (·.born)).Nodup
def qi4 (q:IntKind) (es:List MapEntry) (x:Int):Option Value:=(es.find? (q66 q x)).map (·.val)
def IMap (w:World) (b:Nat) (q:IntKind) (f:Int→Option Value):Prop:=
 ∃es clock,w.heap[b]? =some (.map es clock)∧Ents q es.toList clock∧∀x,f x=qi4 q es.toList x
theorem keyIs_iff {q:IntKind} {x:Int} {e:MapEntry} :q66 q x e=true↔e.key=.int q x:=by
 unfold q66;constructor
 ·intro h
  split at h
  ·rename_i k y he;simp only[Bool.and_eq_true,decide_eq_true_eq,beq_iff_eq]at h;rw[he,h.1,h.2]
  ·cases h
 ·intro h;rw[h];simp
theorem j28 (q:IntKind) (x:Int):∀(es:List MapEntry) (i:Nat),(∀e∈es,∃x,e.key=.int q x)→
  Instr.findNow (.int q) (.int q x) es i=some ((es.findIdx? (q66 q x)).bind fun j=>es[j]?.map fun e=>(i+j,e.val))
 | [],i,_=>by simp[Instr.findNow]
 | e ::es,i,h=>by
  obtain⟨y,hy⟩:=h e (by simp)
  have ih:=j28 q x es (i+1) (fun e he=>h e (by simp[he]))
  by_cases hxy:x=y
  ·subst hxy
   have hk:q66 q x e=true:=keyIs_iff.2 hy
   simp[Instr.findNow,hy,Instr.sameNow,List.findIdx?_cons,hk]
  ·have hk:q66 q x e=false:=by
    cases hk:q66 q x e
    ·rfl
    ·rw[keyIs_iff,hy]at hk;cases hk;exact absurd rfl hxy
   have hb:(x==y)=false:=by simpa using hxy
   simp only[Instr.findNow,hy,Instr.sameNow,if_true,hb]
   rw[ih,List.findIdx?_cons,hk]
   cases es.findIdx? (q66 q x)with
   | none=>simp
   | some j=>simp;cases es[j]? <;> simp;omega
section
variable {P:Program} {w:World} {b:Nat} {q:IntKind} {f:Int→Option Value} {K E T:TypeId}
theorem qr5 (hk:P.underlying K=some (.int q)) (x:Int) (es:List MapEntry) (h:∀e∈es,∃x,e.key=.int q x) (w:World):
  (Instr.findKey K (.int q x) es).run P w=.ok ((es.findIdx? (q66 q x)).bind fun j=>es[j]?.map fun e=>(j,e.val)) w:=by
 simp only[Instr.findKey,Sem.run_bind,run_underlying hk,Result.andThen_ok,j28 q x es 0 h,Nat.zero_add];rfl
theorem qc4 (hk:P.underlying K=some (.int q)) (em:Bool) (x:Int) (w:World):(Instr.checkKey em 10000 K (.int q x)).run P w=.ok () w:=by show Sem.run P (Instr.checkKey em (9999+1) K (.int q x)) w=_;rw[Instr.checkKey];simp only[Sem.run_bind,run_underlying hk,Result.andThen_ok];rfl
theorem z28 (es:List MapEntry) (x:Int):(es.findIdx? (q66 q x)).bind (fun j=>es[j]?.map fun e=>(j,e.val))=(es.findIdx? (q66 q x)).bind fun j=>(qi4 q es x).map fun v=>(j,v):=by
 cases h:es.findIdx? (q66 q x)with
 | none=>rfl
 | some j=>obtain⟨hj,hkj,hmin⟩:=List.findIdx?_eq_some_iff_getElem.1 h;have hf:es.find? (q66 q x)=some es[j]:=(by rw[List.find?_eq_some_iff_getElem];exact⟨hkj,j,hj,rfl,fun i hi=>by simpa using hmin i hi⟩);simp[qi4,hf,List.getElem?_eq_getElem hj]
theorem qw3 (es:List MapEntry) (x:Int) (h:es.findIdx? (q66 q x)=none):qi4 q es x=none:=by rw[List.findIdx?_eq_none_iff]at h;unfold qi4;rw[List.find?_eq_none.2 (fun e he=>by simpa using h e he)];rfl
theorem qh3 (es:List MapEntry) (x:Int) {j:Nat} (h:es.findIdx? (q66 q x)=some j):∃hj:j < es.length,qi4 q es x=some es[j].val∧es[j].key=.int q x:=by obtain⟨hj,hkj,hmin⟩:=List.findIdx?_eq_some_iff_getElem.1 h;have hf:es.find? (q66 q x)=some es[j]:=(by rw[List.find?_eq_some_iff_getElem];exact⟨hkj,j,hj,rfl,fun i hi=>by simpa using hmin i hi⟩);exact⟨hj,by simp[qi4,hf],keyIs_iff.1 hkj⟩
theorem IMap.lt (h:IMap w b q f):b < w.heap.size:=by obtain⟨es,clock,hb,_⟩:=h;exact(Array.getElem?_eq_some_iff.1 hb).1
theorem IMap.made (w:World) (q:IntKind):IMap (w.alloc (.map #[] 0)) w.heap.size q (fun _=>none):=
 ⟨#[],0,heap_alloc_new w _,⟨by simp,by simp,by simp,by simp⟩,fun x=>by simp[qi4]⟩
theorem IMap.lookup_ok (h:IMap w b q f) (ht:P.underlying T=some (.map K E)) (hk:P.underlying K=some (.int q)) {z:Value} (hz:(zeroValue E).run P w=.ok z w) (x:Int):
  (Instr.lookup T (.map (some b)) (.int q x) true).run P w=.ok (.tuple #[(f x).getD z,.bool (f x).isSome]) w:=by
 obtain⟨es,clock,hb,F,hf⟩:=h;have hfk:=qr5 (P:=P) hk x es.toList F.keys w;rw[z28]at hfk;rw[hf];cases h:es.toList.findIdx? (q66 q x)with
 | none=>rw[h]at hfk;simp only[Option.bind_none]at hfk;simp[Instr.lookup,run_underlying ht,MapKept.run_getObj_map hb,qc4 hk,hfk,qw3 _ _ h,hz,Result.andThen]
 | some j=>obtain⟨_,h2,_⟩:=qh3 _ _ h;rw[h,h2]at hfk;simp only[Option.bind_some,Option.map_some]at hfk;simp[Instr.lookup,run_underlying ht,MapKept.run_getObj_map hb,qc4 hk,hfk,h2,Result.andThen]
def upd (f:Int→Option Value) (x:Int) (v:Option Value):Int→Option Value:=fun y=>if y=x then v else f y
theorem qk3 (w:World) (b:Nat) (o:Obj):Mod [b] w (ChangeMaps.setBlock w b o):=
 ⟨rfl,rfl,rfl,by simp[ChangeMaps.setBlock],fun k hk hn=>by
  simp only[ChangeMaps.setBlock]
  rw[Array.getElem?_setIfInBounds_ne]
  simpa using fun e=>hn (by simp[e])⟩
theorem ji3 (es:List MapEntry) (x y:Int) (v:Value) {j:Nat} (h:es.findIdx? (q66 q x)=some j):
  qi4 q (es.modify j fun e=> { e with key:=.int q x,val:=v }) y=if y=x then some v else qi4 q es y:=by
 obtain⟨hj,_,hkj⟩:=qh3 _ _ h;obtain⟨_,hk2,hmin⟩:=List.findIdx?_eq_some_iff_getElem.1 h;have hsame:∀i (hi:i < es.length) (z:Int),q66 q z ((es.modify j fun e=> { e with key:=.int q x,val:=v })[i]'(by simpa using hi))=q66 q z es[i]:=by
  intro i hi z;rw[List.getElem_modify]
  split
  ·rename_i hij;subst hij;have e1:(q66 q z { es[j]with key:=.int q x,val:=v } =true)↔(q66 q z es[j]=true):=(by rw[keyIs_iff,keyIs_iff,hkj]);cases h1:q66 q z { es[j]with key:=.int q x,val:=v } <;> cases h2:q66 q z es[j] <;> simp_all
  ·rfl
 have hidx:∀z,(es.modify j fun e=> { e with key:=.int q x,val:=v }).findIdx? (q66 q z)=es.findIdx? (q66 q z):=by
  intro z;cases hz:es.findIdx? (q66 q z)with
  | none=>rw[List.findIdx?_eq_none_iff]at hz ⊢;intro e he;obtain⟨i,hi,rfl⟩:=List.mem_iff_getElem.1 he;have hi':i < es.length:=(by simpa using hi);rw[hsame i hi' z];exact hz _ (List.getElem_mem hi')
  | some i=>obtain⟨hi,h1,h2⟩:=List.findIdx?_eq_some_iff_getElem.1 hz;rw[List.findIdx?_eq_some_iff_getElem];refine⟨by simpa using hi,by rw[hsame i hi z];exact h1,fun i' hi'=> ?_⟩;rw[hsame i' (by omega) z];exact h2 i' hi'
 cases hy:es.findIdx? (q66 q y)with
 | none=>rw[qw3 _ _ (by rw[hidx];exact hy),qw3 _ _ hy,if_neg];rintro rfl;rw[h]at hy;cases hy
 | some i=>
  obtain⟨hi,h1,h2⟩:=qh3 (q:=q) (es.modify j fun e=> { e with key:=.int q x,val:=v }) y (j:=i) (by rw[hidx];exact hy);obtain⟨hi',h3,h4⟩:=qh3 _ _ hy;rw[h1,h3];by_cases hyx:y=x
  ·subst hyx;rw[if_pos rfl];rw[h]at hy;cases hy;rw[List.getElem_modify,if_pos rfl]
  ·rw[if_neg hyx,List.getElem_modify,if_neg];rintro rfl;rw[hkj]at h4;cases h4;exact hyx rfl
theorem Ents.modify {es:List MapEntry} {clock:Nat} (F:Ents q es clock) {x:Int} {j:Nat} (h:es.findIdx? (q66 q x)=some j) (v:Value):
  Ents q (es.modify j fun e=> { e with key:=.int q x,val:=v }) clock:=by
 obtain⟨hj,_,hkj⟩:=qh3 _ _ h;have hkeys:(es.modify j fun e=> { e with key:=.int q x,val:=v }).map (·.key)=es.map (·.key):=by
  apply List.ext_getElem
  ·simp
  ·intro i h1 h2;simp only[List.getElem_map,List.getElem_modify]
   split
   ·rename_i hij;subst hij;exact hkj.symm
   ·rfl
 have hborn:(es.modify j fun e=> { e with key:=.int q x,val:=v }).map (·.born)=es.map (·.born):=by
  apply List.ext_getElem
  ·simp
  ·intro i h1 h2;simp only[List.getElem_map,List.getElem_modify]
   split
   ·rfl
   ·rfl
 refine⟨?_,?_,?_,by rw[hborn];exact F.stamps⟩
 ·intro e he;have:e.key∈es.map (·.key):=(by rw[←hkeys];exact List.mem_map.2 ⟨e,he,rfl⟩);obtain⟨e',he',h1⟩:=List.mem_map.1 this;obtain⟨y,hy⟩:=F.keys e' he';exact⟨y,by rw[←h1,hy]⟩
 ·have h1:(es.map (·.key)).Pairwise (· ≠ ·):=List.pairwise_map.2 F.apart;rw[←hkeys]at h1;exact List.pairwise_map.1 h1
 ·intro e he;have:e.born∈es.map (·.born):=(by rw[←hborn];exact List.mem_map.2 ⟨e,he,rfl⟩);obtain⟨e',he',h1⟩:=List.mem_map.1 this;rw[←h1];exact F.born e' he'
theorem j14 (x:Int) (w:World):(Instr.keyThatStays (.int q x) (.int q x)).run P w=.ok (.int q x) w:=by
 have:Instr.sameBits 10000 (.int q x) (.int q x)=true:=by show(q==q && x==x)=true;simp
 simp[Instr.keyThatStays,this]
theorem IMap.update (h:IMap w b q f) (ht:P.underlying T=some (.map K E)) (hk:P.underlying K=some (.int q)) (x:Int) (v:Value):
  ∃w',(Instr.mapUpdate T (.map (some b)) (.int q x) v).run P w=.ok () w'∧IMap w' b q (upd f x (some v))∧Mod [b] w w'∧w'.heap.size=w.heap.size:=by
 obtain⟨es,clock,hb,F,hf⟩:=h;have hfk:=qr5 (P:=P) hk x es.toList F.keys w;cases hidx:es.toList.findIdx? (q66 q x)with
 | none=>
  refine⟨ChangeMaps.setBlock w b (.map (es.push { key:=.int q x,val:=v,born:=clock }) (clock+1)),?_,?_,qk3 _ _ _,by simp[ChangeMaps.setBlock]⟩
  ·rw[hidx]at hfk;simp only[Option.bind_none]at hfk;simp[Instr.mapUpdate,run_underlying ht,MapKept.run_getObj_map hb,qc4 hk,hfk,MapKept.run_setObj_map _ hb,Result.andThen,ChangeMaps.setBlock]
  ·refine⟨_,_,ChangeMaps.heap_setBlock_same hb _,?_,?_⟩
   ·rw[List.findIdx?_eq_none_iff]at hidx;rw[Array.toList_push];refine⟨?_,?_,?_,?_⟩
    ·intro e he;rcases List.mem_append.1 he with h1 | h1
     ·exact F.keys e h1
     ·simp at h1;exact⟨x,by rw[h1]⟩
    ·rw[List.pairwise_append];refine⟨F.apart,by simp,fun a ha c hc=> ?_⟩;simp at hc;subst hc;intro e;have:=hidx a ha;rw[keyIs_iff.2 e]at this;cases this
    ·intro e he;rcases List.mem_append.1 he with h1 | h1
     ·have:=F.born e h1;omega
     ·simp at h1;rw[h1];simp
    ·rw[List.map_append,List.nodup_append];refine⟨F.stamps,by simp,fun a ha c hc=> ?_⟩;obtain⟨e,he,rfl⟩:=List.mem_map.1 ha;simp at hc;have:=F.born e he;omega
   ·intro y;rw[Array.toList_push];unfold upd qi4;rw[List.find?_append];by_cases hyx:y=x
    ·subst hyx;rw[if_pos rfl];rw[List.findIdx?_eq_none_iff]at hidx;rw[List.find?_eq_none.2 (fun e he=>by simpa using hidx e he)];have:q66 q y { key:=.int q y,val:=v,born:=clock } =true:=keyIs_iff.2 rfl;simp[this]
    ·rw[if_neg hyx,hf];have:q66 q y { key:=.int q x,val:=v,born:=clock } =false:=by
      cases hk:q66 q y { key:=.int q x,val:=v,born:=clock }
      ·rfl
      ·rw[keyIs_iff]at hk;cases hk;exact absurd rfl hyx
     simp[this,qi4]
 | some j=>
  obtain⟨hj,hval,hkj⟩:=qh3 _ _ hidx;refine⟨ChangeMaps.setBlock w b (.map (es.modify j fun e=> { e with key:=.int q x,val:=v }) clock),?_,?_,qk3 _ _ _,by simp[ChangeMaps.setBlock]⟩
  ·rw[hidx]at hfk;have e1:es.toList[j]? =some es.toList[j]:=List.getElem?_eq_getElem hj;have hj':j < es.size:=(by simpa using hj);have e2:es[j]? =some es.toList[j]:=(by rw[Array.getElem?_eq_getElem hj'];simp);simp only[Option.bind_some,e1,Option.map_some]at hfk;simp[Instr.mapUpdate,run_underlying ht,MapKept.run_getObj_map hb,qc4 hk,hfk,Result.andThen,ChangeMaps.setBlock];have e3:es[j].key=.int q x:=(by simpa using hkj);simp[hj',e3,j14,MapKept.run_setObj_map _ hb]
  ·refine⟨_,_,ChangeMaps.heap_setBlock_same hb _,?_,?_⟩
   ·rw[Array.toList_modify];exact F.modify hidx v
   ·intro y;rw[Array.toList_modify,ji3 es.toList x y v hidx];unfold upd;rw[hf]
def IIter (w:World) (b r:Nat) (q:IntKind) (f:Int→Option Value) (left:Int→Bool) (cnt:Nat):Prop:=
 ∃es clock since seen c0,w.heap[b]? =some (.map es clock)∧Ents q es.toList clock∧(∀x,f x=qi4 q es.toList x)∧w.heap[r]? =some (.mapIter (some b) since seen c0)∧
  (∀e∈es.toList,e.born < since)∧(leftOf es seen).size=cnt∧(∀x,left x=true↔∃e∈es.toList,e.key=.int q x∧seen.contains e.born=false)∧since≤c0∧since≤clock
theorem IIter.ne {left:Int→Bool} {cnt r:Nat} (h:IIter w b r q f left cnt):r≠b:=by obtain⟨es,clock,since,seen,c0,hb,_,_,hr,_⟩:=h;rintro rfl;rw[hb]at hr;cases hr
theorem IIter.left_eq {left:Int→Bool} {cnt r:Nat} (h:IIter w b r q f left cnt):w.rangeLeft b r=cnt:=by obtain⟨es,clock,since,seen,c0,hb,_,_,hr,_,hc,_⟩:=h;simp only[World.rangeLeft,hb,hr];exact hc
theorem ji2 (es:List MapEntry) (x:Int):(qi4 q es x).isSome=true↔∃e∈es,e.key=.int q x:=by
 unfold qi4;rw[Option.isSome_map,List.find?_isSome];constructor
 ·rintro ⟨e,he,h⟩;exact⟨e,he,keyIs_iff.1 h⟩
 ·rintro ⟨e,he,h⟩;exact⟨e,he,keyIs_iff.2 h⟩
theorem z29 {es:List MapEntry} {clock:Nat} (F:Ents q es clock) {e:MapEntry} (he:e∈es) {x:Int} (hx:e.key=.int q x):qi4 q es x=some e.val:=by unfold qi4;have hs:(es.find? (q66 q x)).isSome=true:=(by rw[List.find?_isSome];exact⟨e,he,keyIs_iff.2 hx⟩);obtain⟨e',he'⟩:=Option.isSome_iff_exists.1 hs;have h1:=List.mem_of_find?_eq_some he';have h2:=keyIs_iff.1 (by simpa using List.find?_some he');have:e'=e:=entry_eq_of_key F.apart h1 he (by rw[h2,hx]);rw[he',this];rfl
theorem IMap.range (h:IMap w b q f) (ht:P.underlying T=some (.map K E)):
  ∃w' cnt,(Instr.range T (.map (some b))).run P w=.ok (.pointer (some ⟨w.heap.size,0,none⟩)) w'∧IIter w' b w.heap.size q f (fun x=>(f x).isSome) cnt∧Mod [] w w'∧w'.heap.size=w.heap.size+1:=by
 have hlt:=h.lt;obtain⟨es,clock,hb,F,hf⟩:=h;refine⟨_,_,run_range_map w T K E b es clock ht hb,⟨es,clock,clock,#[],clock,(Below.heap_alloc w _ b hlt).trans hb,F,hf,heap_alloc_new w _,F.born,rfl,?_,Nat.le_refl _,Nat.le_refl _⟩,(Mod.refl _ _).alloc _,by simp⟩;intro x;show(f x).isSome=true↔_;rw[hf,ji2];simp
theorem IIter.next {left:Int→Bool} {cnt r:Nat} (h:IIter w b r q f left cnt) (ty:TypeId):
  (cnt=0∧(∀x,left x=false)∧(Instr.next (.pointer (some ⟨r,0,none⟩)) false ty).run P w=.ok (.tuple #[.bool false]) w)∨
  ∃(x:Int) (v:Value) (w':World) (cnt':Nat),left x=true∧f x=some v∧(Instr.next (.pointer (some ⟨r,0,none⟩)) false ty).run P w=.ok (.tuple #[.bool true,.int q x,v]) w'∧
   IIter w' b r q f (fun z=>left z && !(z==x)) cnt'∧cnt' < cnt∧Mod [r] w w'∧w'.heap.size=w.heap.size∧(Instr.entry (.pointer (some ⟨r,0,none⟩))).run P w'=.ok (.tuple #[.int q x,v]) w':=by
 have hne:=h.ne;obtain⟨es,clock,since,seen,c0,hb,F,hf,hr,hold,rfl,hl,hsc,hsk⟩:=h;rcases run_next_at (P:=P) w ty r b since c0 seen es clock hr hb hold hsc with⟨h0,hrun⟩ | ⟨e,he,w1,hal,hrun⟩
 ·refine Or.inl ⟨h0,fun x=> ?_,hrun⟩;cases hk:left x
  ·rfl
  ·obtain⟨e,he,_,hs⟩:=(hl x).1 hk;rw[all_seen es seen h0 e he]at hs;cases hs
 ·obtain⟨hem,hes⟩:=mem_left he;obtain⟨x,hx⟩:=F.keys e hem;have hr1:w1.heap[r]? =some (.mapIter (some b) since seen c0):=(by rcases hal with rfl | rfl <;> exact hr);have hb1:w1.heap[b]? =some (.map es clock):=(by rcases hal with rfl | rfl <;> exact hb);have hset:(ChangeMaps.setBlock w1 r (.mapIter (some b) since (seen.push e.born) clock)).heap[r]? =some (.mapIter (some b) since (seen.push e.born) clock):=(by simp only[ChangeMaps.setBlock];rw[Array.getElem?_setIfInBounds_self,if_pos (Array.getElem?_eq_some_iff.1 hr1).1]);have hb':(ChangeMaps.setBlock w1 r (.mapIter (some b) since (seen.push e.born) clock)).heap[b]? =some (.map es clock):=by simp only[ChangeMaps.setBlock];rw[Array.getElem?_setIfInBounds_ne hne];exact hb1
  refine Or.inr ⟨x,e.val,_,_,(hl x).2 ⟨e,hem,hx,by simpa using hes⟩,by rw[hf,z29 F hem hx],by rw[hrun,hx],⟨es,clock,since,seen.push e.born,clock,hb',F,hf,hset,hold,rfl,?_,hsk,hsk⟩,left_shrinks es seen e he,?_,?_,
   by rw[←hx];exact run_entry_at _ r b since seen es clock e hset hb' hem F.stamps⟩
  ·intro z;simp only[Bool.and_eq_true,Bool.not_eq_true',beq_eq_false_iff_ne];rw[hl];constructor
   ·rintro ⟨⟨e',he',h1,h2⟩,h3⟩;refine⟨e',he',h1,?_⟩;rw[contains_push,h2];have:¬e'.born=e.born:=(by intro hbb;have:e'=e:=born_inj F.stamps he' hem hbb;subst this;rw[hx]at h1;cases h1;exact h3 rfl);simpa using this
   ·rintro ⟨e',he',h1,h2⟩;rw[contains_push]at h2;simp only[Bool.or_eq_false_iff]at h2;refine⟨⟨e',he',h1,h2.1⟩,?_⟩;rintro rfl;have:e'=e:=entry_eq_of_key F.apart he' hem (by rw[h1,hx]);subst this;simp at h2
  ·rcases hal with rfl | rfl
   ·exact qk3 _ _ _
   ·exact((Mod.refl [r] w).drew).trans (qk3 _ _ _) (by simp)
  ·rcases hal with rfl | rfl <;> simp[ChangeMaps.setBlock]
end
theorem jw (w:World) (n:Nat) (hn:n≤18446744073709551615) (k:Nat) (hk:k≤8):
  Calls Tryz.prog 176 #[.int .u64 n,.int .i64 k] w fun e w'=>e=.returned (str (be n k))∧Mod [] w w':=by
 have hmk:=fun w=>(Go.run_make_row' (P:=Tryz.prog) 100 5 (.int .u8 0) 1 Tryz.underlying100 qx8 rfl .i64 .i64 k (by omega) (by omega) w).trans (by rw[qn2]);go_enter Tryz.func176,Tryz.ntmps176;go_wp2_with fail;have hb0:Blk (w.alloc (.cells (Array.replicate k (.int .u8 0)) 5)) w.heap.size 5 (q71 n k 0):=(by rw[j33];exact Blk.new w _ _);have hm0:Mod [] w (w.alloc (.cells (Array.replicate k (.int .u8 0)) 5)):=(Mod.refl _ _).alloc _;go_loopw [0,6] (fun x i wr=>∃j:Nat,j≤k∧i=.int .i64 ((k:Int) - 1 - j)∧x=.int .u64 ((n / 256 ^ j:Nat):Int)∧Blk wr w.heap.size 5 (q71 n k j)∧Mod [] w wr) (fun _ i _=>(intOf i+1).toNat)
 case atStart=>exact⟨0,by omega,by go_num,by simp,hb0,hm0⟩
 case round=>
  obtain⟨j,hj,rfl,rfl,hb,hm⟩:=hrel;clear hb0 hm0;have c0:=hb.cell (k - 1 - j);have hlt:=hb.lt;have hfz:=hb.frozen (k - 1 - j);by_cases h:j < k
  ·have h1:((k:Int) - 1 - j)=((k - 1 - j:Nat):Int):=(by omega);have hc:(q71 n k j)[k - 1 - j]? =some ((q71 n k j)[k - 1 - j]'(by rw[qi5];omega)):=Array.getElem?_eq_getElem _;rw[hc]at c0;replace c0:∃v,wr.cell? ⟨w.heap.size,k - 1 - j,none⟩=some v:=⟨_,c0⟩;obtain⟨v0,c0⟩:=c0;have hset:=hb.set_ (k - 1 - j) (.int .u8 ((n / 256 ^ j % 256:Nat):Int));rw[j91 n k j h]at hset;have hpw:n / 256 ^ (j+1)=n / 256 ^ j / 256:=(by rw[Nat.pow_succ,Nat.div_div_eq_div_mul]);obtain⟨N,hN⟩:∃N,n / 256 ^ j=N:=⟨_,rfl⟩;have hNn:N≤18446744073709551615:=(by rw[←hN];exact Nat.le_trans (Nat.div_le_self _ _) hn);rw[hN]at hset hpw ⊢;have HPw:=q00 hpw;have HSet:=q00 (show Blk (wr.setCell ⟨w.heap.size,k - 1 - j,none⟩ (.int .u8 ((N:Int) % 256))) w.heap.size 5 (q71 n k (j+1))by rw[show((N:Int) % 256)=((N % 256:Nat):Int)by omega];exact hset);obtain⟨q,hq⟩:∃q,k - 1 - j=q:=⟨_,rfl⟩;rw[hq]at c0 hfz HSet h1;have hkq:(k:Int) - 1 - j=q:=h1;rw[hkq];have hq1:(q:Int) - 1=(k:Int) - 1 - ((j+1:Nat):Int):=(by omega);have Hq1:=q00 hq1;have hqk:(q:Int) < k:=(by omega);clear hN hpw hset hb hc h1 hq hkq hq1;go_wp2_with fail;go_roundw
   case rel=>exact⟨j+1,by omega,by rw[Hq1.out],by rw[HPw.out];congr 1,HSet.out,hm.setCell (.inr (Nat.le_refl _)) _⟩
   case measure=>simp[intOf]
  ·have:j=k:=(by omega);subst this;rw[j90]at hb;have hcv:=qh2 _ _ _ [] j (by rw[List.append_nil];exact hb);rw[q32]at hcv;have hneg:(j:Int) - 1 - j= -1:=(by omega);clear hb c0 h;go_wp2_with fail;go_ret;exact⟨rfl,hm⟩
theorem z81 (w:World) (k:Nat) (hk:k≤3):
  Calls Tryz.prog 139 #[.int .i64 k] w fun e w'=>e=.returned (.int .u64 (qn7 k:Nat))∧Mod [] w w':=by
 match k,hk with
 | 0,_=>go_enter Tryz.func139,Tryz.ntmps139;go_wp2_with fail;go_ret;exact⟨rfl,(Mod.refl _ _).alloc _⟩
 | 1,_=>go_enter Tryz.func139,Tryz.ntmps139;go_wp2_with fail;go_ret;exact⟨rfl,(Mod.refl _ _).alloc _⟩
 | 2,_=>go_enter Tryz.func139,Tryz.ntmps139;go_wp2_with fail;go_ret;exact⟨rfl,(Mod.refl _ _).alloc _⟩
 | 3,_=>go_enter Tryz.func139,Tryz.ntmps139;go_wp2_with fail;go_ret;exact⟨rfl,(Mod.refl _ _).alloc _⟩
theorem zm6 (w:World) (g:Nat) (cs:Array Value) (e:TypeId) (fr:Nat×Nat) (h:w.heap[g]? =some (.cells cs e fr)) (i:Nat) (hf:i < fr.1∨fr.2≤i):w.frozen? ⟨g,i,none⟩=false:=by simp[World.frozen?,h];omega
theorem z77 (w : World) (n : Nat) (k : Nat) (hk : k ≤ 3) (hn : n < 4611686018427387904) (hv : vk n ≤ k) :
    Calls Tryz.prog 140 #[.int .u64 n, .int .i64 k] w fun e w' => e = .returned (str (qr1 n k)) ∧ Mod [] w w' := by
  obtain ⟨m, b, hm, hm7, hb, hb64, hlay⟩ := z13 hk hv hn;have hsh : (2 : Nat) ^ k = m + 1 := by
    match k, hk, hm with
    | 0, _, hm => obtain rfl : m = 0 := by simp [q49] at hm; omega
                  rfl
    | 1, _, hm => obtain rfl : m = 1 := by simp [q49] at hm; omega
                  rfl
    | 2, _, hm => obtain rfl : m = 3 := by simp [q49] at hm; omega
                  rfl
    | 3, _, hm => obtain rfl : m = 7 := by simp [q49] at hm; omega
                  rfl
  have hby := fun w => jw w n (by omega) (m + 1) (by omega);have hk64 : IntKind.u8.wrap ((k : Int) * 64) = ((k : Int) * 64) := IntWalk.u8_in _ (by omega);have hk65 : IntKind.u8.wrap ((b : Int) + (k : Int) * 64) = ((b : Int) + (k : Int) * 64) := IntWalk.u8_in _ (by omega);have HBy := q00 hby
  have HLay := q00 hlay;have HB := q00 hb;have Hm := q00 hm;have HSh := q00 hsh;clear hby hlay hb hv hm hsh;go_enter Tryz.func140, Tryz.ntmps140;go_wp2_with fail;go_loopw [5, 6] (fun x i wr => ∃ j : Nat, j ≤ k ∧ i = .int .i64 (j : Int) ∧ x = .int .i64 ((2 ^ j : Nat) : Int) ∧ wr = w) (fun _ i _ => k - (intOf i).toNat)
  case atStart => exact ⟨0, by omega, rfl, rfl, by trivial⟩
  case round =>
    obtain ⟨j, hj, rfl, rfl, rfl⟩ := hrel;by_cases h : j < k
    · have hp : 2 ^ (j + 1) = 2 ^ j * 2 := Nat.pow_succ 2 j;have hp4 : 2 ^ j ≤ 2 ^ 3 := Nat.pow_le_pow_right (by omega) (by omega);obtain ⟨N, hN⟩ : ∃ N, 2 ^ j = N := ⟨_, rfl⟩;rw [hN] at hp hp4 ⊢;have HP := q00 hp;have hp5 : N ≤ 8 := hp4;clear hp hN hp4;go_wp2_with fail;go_roundw
      case rel => exact ⟨j + 1, by omega, by go_num, by rw [HP.out]; go_num, by trivial⟩
      case measure => simp [intOf]; omega
    · have : j = k := (by omega);subst this;rw [HSh.out];obtain ⟨Y, hY⟩ : ∃ Y : ByteArray, Y = ⟨(be n (m + 1)).toArray⟩ := ⟨_, rfl⟩;have hYl : Y.data.toList = be n (m + 1) := (by rw [hY]);have hYs : Y.size = m + 1 := (by rw [hY]; exact q32 n (m + 1));have HY : Hid (str (be n (m + 1)) = .string Y) := q00 (by rw [hY]; rfl);go_wp2_with fail;refine (HBy.out _).mono ?_;rintro e w1 ⟨rfl, m1⟩;rw [HY.out];have hcv := Lib.run_convert_string_bytes (P := Tryz.prog) w1 9 100 5 Y Tryz.underlying9 Tryz.underlying100 Tryz.underlying5;obtain ⟨cap, hcap⟩ : ∃ cap, grownCap w1 Y.size 0 5 = cap := ⟨_, rfl⟩;rw [hcap, hYs] at hcv;have hcell : ∀ j (h : j < (be n (m + 1)).length), (Lib.bytesWorld w1 5 Y).cell? ⟨w1.heap.size, j, none⟩ = some (.int .u8 ((be n (m + 1))[j].toNat : Int)) := fun j h => (by rw [Lib.bytesWorld_cell w1 _ _ _ (by rw [q32] at h; omega), hYl];simp [h]);have hfrz : (Lib.bytesWorld w1 5 Y).frozen? ⟨w1.heap.size, 0, none⟩ = false :=
        zm6 _ _ _ _ _ (Lib.bytesWorld_at_new w1 5 Y) 0 (.inl (by simp [Lib.bytesCells]; omega))
      have hmod : Mod [] w1 (Lib.bytesWorld w1 5 Y) := ⟨rfl, rfl, rfl, by rw [Lib.bytesWorld_size]; omega, fun j hj _ => Lib.bytesWorld_at_old w1 _ _ j hj⟩;have hszb := Lib.bytesWorld_size w1 5 Y;obtain ⟨wb, hwb⟩ : ∃ wb, Lib.bytesWorld w1 5 Y = wb := ⟨_, rfl⟩;rw [hwb] at hcv hcell hmod hszb hfrz;have c0 := hcell 0 (by rw [q32]; omega);have c0' : wb.cell? ⟨w1.heap.size, 0, none⟩ = some (.int .u8 (b : Int)) := (by rw [c0];simp [be, HB.out, UInt8.toNat_ofNat']; omega);have hlt : w1.heap.size < wb.heap.size := by omega
      have hlast := run_convert_bytes_back (P := Tryz.prog) (wb.setCell ⟨w1.heap.size, 0, none⟩ (.int .u8 ((b : Int) + (j : Int) * 64))) 100 9 5 ⟨w1.heap.size, 0, none⟩ cap (qr1 n j) Tryz.underlying100 Tryz.underlying5 Tryz.underlying9 (fun i hi => by
        have hll : (qr1 n j).length = m + 1 := by unfold qr1; rw [q32, Hm.out]
        rw [Addr.add_lit, Nat.zero_add]
        cases i with
        | zero =>
          rw [World.cell?_setCell_same' _ _ _ (by rw [c0]; rfl)]
          simp [HLay.out, UInt8.toNat_ofNat']; omega
        | succ i =>
          rw [World.cell?_setCell_other _ _ _ _ (by intro e; cases e), hcell (i + 1) (by rw [q32]; omega)]
          simp [HLay.out, be])
      have hll : (qr1 n j).length = m + 1 := (by unfold qr1; rw [q32, Hm.out]);rw [hll] at hlast;clear hcell c0 hszb hwb hcap HY hYl hY hYs hll;go_wp2_with fail;go_ret;exact ⟨rfl, (m1.trans hmod (by simp)).setCell (.inr m1.size) _⟩
theorem jq6 (w:World) (n:Nat):
  Calls Tryz.prog 107 #[.int .u64 n] w fun e w'=>e=.returned (.tuple #[str (q03 n),.int .i64 (jc9 n)])∧Mod [] w w':=by
 go_enter Tryz.func107,Tryz.ntmps107;go_wp2_with fail;go_loopw [4] (fun i wr=>∃j:Nat,(j≤vk n∨(j=4∧4611686018427387903 < n))∧i=.int .i64 (j:Int)∧Mod [] w wr) (fun i _=>4 - (intOf i).toNat)
 case atStart=>exact⟨0,.inl (by omega),rfl,Mod.refl _ _⟩
 case round=>
  obtain⟨j,hj,rfl,hm⟩:=hrel;have h3:=jg6 n;by_cases h:j < 4
  ·have hjk:j≤vk n:=(by omega);obtain⟨B,hB⟩:∃B,qn7 j=B:=⟨_,rfl⟩;have hmo:=fun w=>z81 w j (by omega);rw[hB]at hmo;have HMo:=q00 hmo;by_cases hb:n < B
   ·have hk:vk n=j:=by
     by_cases h2:j < 3
     ·exact(jl0 h2 hjk).1 (by rw[hB];exact hb)
     ·omega
    have hn:n < 4611686018427387904:=by have:B≤4611686018427387904:=(by rw[←hB];have h4:j=0∨j=1∨j=2∨j=3:=(by omega);rcases h4 with rfl | rfl | rfl | rfl <;> decide);omega
    have hly:=fun w=>z77 w n j (by omega) hn (by omega);have hv:Hid (q03 n=qr1 n j∧jc9 n=0):=q00 ⟨by unfold q03;rw[if_neg (by omega)];unfold j05;rw[hk],by unfold jc9;rw[if_neg (by omega)]⟩;have HLy:=q00 hly;clear hmo hB hjk hj h3 hk hly;go_wp2_with fail;refine(HMo.out _).mono ?_;rintro e w1 ⟨rfl,m1⟩;go_wp2_with fail;refine(HLy.out _).mono ?_;rintro e w2 ⟨rfl,m2⟩;go_wp2_with fail;go_ret2;exact⟨by rw[hv.out.1,hv.out.2];rfl,(hm.trans m1 (by simp)).trans m2 (by simp)⟩
   ·have hnext:j+1≤vk n∨(j+1=4∧4611686018427387903 < n):=by
     by_cases h2:j < 3
     ·exact .inl ((jl0 h2 hjk).2 (by rw[hB];exact hb))
     ·right;obtain rfl:j=3:=(by omega);simp[qn7]at hB;omega
    have HN:=q00 hnext;clear hmo hB hjk hj h3 hnext;go_wp2_with fail;refine(HMo.out _).mono ?_;rintro e w1 ⟨rfl,m1⟩;go_wp2_with fail;go_roundw
    case rel=>exact⟨j+1,HN.out,by go_num,hm.trans m1 (by simp)⟩
    case measure=>simp[intOf];omega
  ·have hj4:j=4∧4611686018427387903 < n:=(by omega);obtain⟨rfl,hb⟩:=hj4;have hv:Hid (q03 n= []∧jc9 n=3):=q00 ⟨if_pos hb,if_pos hb⟩;clear hb;go_wp2_with fail;go_ret2;exact⟨by rw[hv.out.1,hv.out.2];rfl,hm⟩
theorem qq4 (x : ByteArray) (i : Nat) (h : i < x.size) (d : UInt8) (hd : x.data.toList[i]? = some d) : x[i]'h = d := by
  rw [List.getElem?_eq_getElem (by have e : x.data.toList.length = x.size := Array.length_toList
                                   omega)] at hd
  have e2 := Option.some.inj hd;rw [← e2];simp [ByteArray.getElem_eq_getElem_data]
section
variable {P:Program} {ops:Array Oper} {Q:Exit→Act→World→Prop} {md:Region.Mode} {st:List Nat} {S:World→Prop}
def qe6 (st:List Nat) (listed:Array Bool):Bool:=st.all fun j=> !listed.getD j false
def nxt (md:Region.Mode) (ops:Array Oper) (k:Nat):List Nat:=match ops[k]? with
 | some o=>(o.after.toList.filter (Region.binds md)).map fun e=>e.on
 | none=> []
def qd6 (md:Region.Mode) (ops:Array Oper):Nat→List Nat→List Nat
 | 0,l=>l
 | n+1,l=>qd6 md ops n (l++ ((l.flatMap (nxt md ops)).filter fun x=> !l.contains x).eraseDups)
def jg9 (md:Region.Mode) (ops:Array Oper) (st:List Nat) (i:Nat):Bool:=st.all fun j=>(qd6 md ops 6 (nxt md ops j)).contains i
def qr8 (md:Region.Mode) (ops:Array Oper) (listed:Array Bool):Prop:=∀k,listed.getD k false=true→∀x∈nxt md ops k,listed.getD x false=true
def qt6 (md:Region.Mode) (ops:Array Oper) (listed:Array Bool):Bool:=(List.range listed.size).all fun k=> !listed.getD k false || (nxt md ops k).all fun x=>listed.getD x false
theorem z24 {md:Region.Mode} {ops:Array Oper} {listed:Array Bool} (h:qt6 md ops listed=true):qr8 md ops listed:=by
 intro k hk x hx;have hlt:k < listed.size:=by
  rcases Nat.lt_or_ge k listed.size with h' | h'
  ·exact h'
  ·simp[Array.getElem?_eq_none h']at hk
 have h1:=List.all_eq_true.1 h k (List.mem_range.2 hlt);rw[hk,Bool.not_true,Bool.false_or]at h1;exact List.all_eq_true.1 h1 x hx
theorem j01 {md:Region.Mode} {ops:Array Oper} {listed:Array Bool} (hc:qr8 md ops listed):∀(n:Nat) (l:List Nat),(∀x∈l,listed.getD x false=true)→∀x∈qd6 md ops n l,listed.getD x false=true
 | 0,l,h=>h
 | n+1,l,h=>by
  rw[qd6]
  refine j01 hc n _ fun x hx=> ?_
  rcases List.mem_append.1 hx with hx | hx
  ·exact h x hx
  ·rw[List.mem_eraseDups,List.mem_filter,List.mem_flatMap]at hx
   obtain⟨⟨k,hk,hkx⟩,_⟩:=hx
   exact hc k (h k hk) x hkx
theorem jf6 {md:Region.Mode} {ops:Array Oper} {listed:Array Bool} {j:Nat} (hj:j∈Region.ready md ops listed):∀x∈nxt md ops j,listed.getD x false=true:=by intro x hx;obtain⟨_,o,ho,hall⟩:=mem_ready.1 hj;unfold nxt at hx;rw[ho]at hx;simp only[List.mem_map,List.mem_filter]at hx;obtain⟨e,⟨he,hb⟩,rfl⟩:=hx;exact hall e (by simpa using he) hb
theorem qh1 {md:Region.Mode} {ops:Array Oper} {listed:Array Bool} {j:Nat} (hc:qr8 md ops listed) (hj:j∈Region.ready md ops listed):qr8 md ops (listed.setIfInBounds j true):=by
 intro k hk x hx;apply getD_set_true;by_cases hjk:j=k
 ·subst hjk;exact jf6 hj x hx
 ·rw[getD_set_ne false hjk]at hk;exact hc k hk x hx
def qy3 (st:List Nat) (S:World→Prop) (listed:Array Bool) (w:World):Prop:=qe6 st listed=true→S w
def q91 (P:Program) (md:Region.Mode) (ops:Array Oper) (Q:Exit→Act→World→Prop) (st:List Nat) (S:World→Prop):Nat→Array Bool→Act→World→Prop
 | 0,listed,a,w=>Region.ready md ops listed= []∧Q .normal a w
 | fuel+1,listed,a,w=>(Region.ready md ops listed= []→Q .normal a w)∧
  ∀i∈Region.ready md ops listed,wpOp P ops Q i (fun a' w'=>qy3 st S (listed.setIfInBounds i true) w'∧q91 P md ops Q st S fuel (listed.setIfInBounds i true) a' w') a w
theorem qt3:∀(fuel:Nat) (listed:Array Bool) (a:Act) (w:World),q91 P md ops Q st S fuel listed a w→wpAny P md ops Q fuel listed a w
 | 0,_,_,_,h=>h
 | fuel+1,_,_,_,h=>⟨h.1,fun i hi=>wpOp_mono (fun a' w' h'=>qt3 fuel _ a' w' h'.2) (h.2 i hi)⟩
theorem j09 {listed:Array Bool} {j:Nat} (h:qe6 st listed=true) (hj:j∉st):qe6 st (listed.setIfInBounds j true)=true:=by unfold qe6 at h ⊢;rw[List.all_eq_true]at h ⊢;intro k hk;have hjk:j≠k:=fun e=>hj (e ▸ hk);rw[getD_set_ne false hjk];exact h k hk
theorem jl1 {i:Nat} {oi:Oper} {v:Value} (hi:ops[i]? =some oi) (hsel:∀(j:Nat) (o:Oper) cs b,ops[j]? =some o→o.op≠ .select cs b)
  (hQ:∀c a w,Q (.panic c) (a.put oi.dst v) w→Q (.panic c) a w) (hwt:jg9 md ops st i=true) (hist:i∉st):
  ∀(fuel:Nat) (listed:Array Bool) (a:Act) (w:World),
   (∀j oj,ops[j]? =some oj→j≠i→listed.getD j true=false→(∀e∈oj.after,Region.binds md e=true→e.on≠i)→oi.apart ops oj=true)→qe6 st listed=true→qr8 md ops listed→
   i∈Region.ready md ops listed→YieldsIf P ops S oi v a→S w→
   q91 P md ops Q st S fuel (listed.setIfInBounds i true) (a.put oi.dst v) w→q91 P md ops Q st S (fuel+1) listed a w:=by
 intro fuel;induction fuel with
 | zero=>
  intro listed a w _ _ _ hr hy hS H;refine⟨fun h=>(by rw[h]at hr;cases hr),fun j hj=> ?_⟩;by_cases hji:j=i
  ·subst hji;exact hy.wpOp hi hS ⟨fun _=>hS,H⟩
  ·have:=ready_mono hj hji;rw[H.1]at this;cases this
 | succ fuel ih=>
  intro listed a w hfree hea hcl hr hy hS H;refine⟨fun h=>(by rw[h]at hr;cases hr),fun j hj=> ?_⟩;by_cases hji:j=i
  ·subst hji;exact hy.wpOp hi hS ⟨fun _=>hS,H⟩
  ·have h1:=H.2 j (ready_mono hj hji);obtain⟨hjun,oj,hoj,hall⟩:=mem_ready.1 hj;have hnot:∀e∈oj.after,Region.binds md e=true→e.on≠i:=fun e he hb heq=>by
    have h2:=hall e he hb;have h3:=(mem_ready.1 hr).1;rw[heq]at h2;rcases Nat.lt_or_ge i listed.size with h' | h'
    ·simp[h']at h2 h3;rw[h3]at h2;cases h2
    ·simp[Array.getElem?_eq_none h']at h2
   have hjst:j∉st:=fun hm=>by
    have h2:=List.all_eq_true.1 hwt j hm;have h3:=j01 hcl 6 _ (jf6 hj) i (by simpa using h2);have h4:=(mem_ready.1 hr).1;rcases Nat.lt_or_ge i listed.size with h' | h'
    ·simp[h']at h3 h4;rw[h4]at h3;cases h3
    ·simp[Array.getElem?_eq_none h']at h3
   have hea':=j09 hea hjst;have h2:=wpOp_putIf hoj (hfree j oj hoj hji hjun hnot) (fun cs b=>hsel i oi cs b hi) (fun cs b=>hsel j oj cs b hoj) hQ hy h1
   have hfree':∀k ok,ops[k]? =some ok→k≠i→(listed.setIfInBounds j true).getD k true=false→
     (∀e∈ok.after,Region.binds md e=true→e.on≠i)→oi.apart ops ok=true:=fun k ok hk hki hun hno=>by
    refine hfree k ok hk hki ?_ hno;by_cases hjk:j=k
    ·subst hjk;exact hjun
    ·rw[getD_set_ne true hjk]at hun;exact hun
   refine wpOp_mono (fun a' w' h3=> ?_) h2;have hS':S w':=h3.2.1 (by rw[Array.setIfInBounds_comm _ _ (Ne.symm hji)];exact j09 hea' hist);refine⟨fun _=>hS',ih (listed.setIfInBounds j true) a' w' hfree' hea' (qh1 hcl hj) (ready_mono hr (Ne.symm hji)) h3.1 hS' ?_⟩;rw[Array.setIfInBounds_comm _ _ hji];exact h3.2.2
theorem z12 {i:Nat} {oi:Oper} {v:Value} {fuel:Nat} {listed:Array Bool} {a:Act} {w:World} (d:Nat) (hi:ops[i]? =some oi) (hd:oi.dst=some d)
  (hs:Region.noSelect ops=true) (hf:Region.free md ops listed i=true) (hr:(Region.ready md ops listed).contains i=true) (hwt:(jg9 md ops st i && qe6 st listed && !st.contains i && qt6 md ops listed)=true)
  (hQ:∀c a w,Q (.panic c) (a.put (some d) v) w→Q (.panic c) a w) (hy:YieldsIf P ops S oi v a) (hS:S w)
  (h:q91 P md ops Q st S fuel (listed.setIfInBounds i true) (a.put (some d) v) w):q91 P md ops Q st S (fuel+1) listed a w:=by
 simp only[Bool.and_eq_true,Bool.not_eq_true']at hwt;exact jl1 hi (Region.noSelect_spec hs) (by rw[hd];exact hQ) hwt.1.1.1 (fun hm=>by have:=hwt.1.2;simp at this;exact this hm) fuel listed a w (Region.free_spec hi hf) hwt.1.1.2 (z24 hwt.2) (by simpa using hr) hy hS (by rw[hd];exact h)
def z16 (P:Program) (md:Region.Mode) (ops:Array Oper) (Q:Exit→Act→World→Prop) (st:List Nat) (S:World→Prop) (fuel:Nat) (listed:Array Bool) (a:Act) (w:World) (rs:List Nat):Prop:=
 ∀i∈rs,wpOp P ops Q i (fun a' w'=>qy3 st S (listed.setIfInBounds i true) w'∧q91 P md ops Q st S fuel (listed.setIfInBounds i true) a' w') a w
theorem qk4 {rs:List Nat} {fuel:Nat} {listed:Array Bool} {a:Act} {w:World} (hr:Region.ready md ops listed=rs) (hne:rs≠ [])
  (h:z16 P md ops Q st S fuel listed a w rs):q91 P md ops Q st S (fuel+1) listed a w:=⟨fun h0=>absurd (hr ▸ h0) hne,hr ▸ h⟩
theorem js {listed:Array Bool} {a:Act} {w:World} (hr:Region.ready md ops listed= []) (h:Q .normal a w):∀fuel,q91 P md ops Q st S fuel listed a w
 | 0=>⟨hr,h⟩
 | _+1=>⟨fun _=>h,by rw[hr];simp⟩
theorem qj5 {id:Nat} {a:Act} {w:World} (st:List Nat) (S:World→Prop) (hm:P.follows .mixedOrders=true)
  (h:q91 P .any ops Q st S ops.size (Array.replicate ops.size false) a w.drew):(Code.region id ops true).wp P Q a w:=
 wp_region_any hm (qt3 _ _ _ _ h)
end
structure Fam (S:World→Prop) where
 w:World
 ok:S w
instance {F:List Nat} {w:World} :Nonempty (Fam (Mod F w)):=⟨⟨w,Mod.refl F w⟩⟩
abbrev Cls (S:World→Prop):World→Prop:=fun w=>∃i:Fam S,w=i.w
theorem q09 {F:List Nat} {w:World} {p:Addr} {v:Value} (h:w.cell? p=some v) (hn:p.block∉F) (i:Fam (Mod F w)):i.w.cell? p=some v:=(i.ok.cell (World.block_lt_of_cell? w _ h) hn).trans h
def qg2:Op→Bool
 | .move _ | .assign _ | .pick .. | .build .. | .load .. | .nilCheck _ | .binOp .. | .unOp .. | .convert .. | .slice .. | .fieldAddr .. | .field .. | .indexAddr .. | .index .. | .extract .. =>true
 | .call { callee:=.builtin .len,.. } =>true
 | .call { callee:=.builtin .min,.. } =>true
 | .call { callee:=.builtin .max,.. } =>true
 | _=>false
def Vs (s:Sem Next):Prop:=∀P w n w',s.run P w=.ok n w'→∃v,n=.value v
theorem Vs.pure (v:Value):Vs (Pure.pure (.value v)):=fun P w n w' h=>by cases h;exact⟨v,rfl⟩
theorem Vs.bind {α:Type} {s:Sem α} {k:α→Sem Next} (hk:∀x,Vs (k x)):Vs (s >>=k):=fun P w n w' h=>by
 rw[Sem.run_bind]at h;cases hr:s.run P w with
 | ok a w2=>rw[hr]at h;exact hk a P w2 n w' h
 | halt x w2=>rw[hr]at h;cases h
theorem Vs.halt (x:Halt):Vs (.halt x):=fun P w n w' h=>by cases h
theorem Vs.halts (e:RuntimeError):Vs (runtimePanic e):=by unfold runtimePanic;refine Vs.bind fun p=> ?_;cases e <;> first | exact Vs.halt _ | exact Vs.bind fun _=>Vs.bind fun _=>Vs.halt _
theorem zi0 {ρ:Operand→Value} {o:Oper} (hp:qg2 o.op=true):Vs (execOp ρ o):=by
 unfold execOp;(cases ho:o.op <;> rw[ho]at hp <;> first | cases hp | skip);(all_goals dsimp only);all_goals first
  | exact Vs.pure _
  | exact Vs.bind fun _=>Vs.pure _
  | skip
 ·split
  ·exact Vs.halts _
  ·exact Vs.halts _
  ·exact Vs.halts _
  ·split
   ·exact Vs.halts _
   ·refine Vs.bind fun _=>Vs.bind fun _=> ?_
    split
    ·exact Vs.bind fun _=>Vs.pure _
    ·exact Vs.pure _
   ·exact Vs.pure _
  ·exact Vs.pure _
 ·rename_i c;obtain⟨cl,ag,ats⟩:=c;cases cl with
  | builtin b=>cases b <;> first | (cases hp;done) | (intro P w n w' h;rw[Sem.run_bind]at h;exact(Vs.bind fun _=>Vs.pure _) P w n w' h)
  | _=>cases hp
theorem jp8 {ρ:Operand→Value} {o:Oper} (hp:qg2 o.op=true) {P:Program} {w w':World} {n:Next} (h:(execOp ρ o).run P w=.ok n w'):∃v,n=.value v:=zi0 hp P w n w' h
theorem q14 {P:Program} {ops:Array Oper} {C:World→Prop} {Q:Act→Prop} {a:Act} {o:Oper} {rest:List Oper} (hg:o.guard=none) (ty:TypeId) (x:Operand) (ho:o.op=.load ty x) (b off:Nat) (hx:a.eval x=.pointer (some ⟨b,off,none⟩)) (cs:List Value) (d:TypeDesc)
  (hc:∀w,C w→w.rangeAt b off cs) (hu:P.underlying ty=some d) (hd:d.isRow=true) (hi:(P.info? ty).map (·.size)=some cs.length) (h:wpQuiet P ops C Q rest (a.put o.dst (.agg cs.toArray))):wpQuiet P ops C Q (o ::rest) a:=
 wpQuiet_step fun K hK=>by
  rw[if_pos (by unfold Region.wanted;rw[hg])];refine⟨_,fun w hw=> ?_,hK _ h⟩;unfold Oper.quietAt execOp;simp only[ho,hx,Sem.run_bind,run_loadAt_mid w b off ty cs d (hc w hw) hu hd hi,Result.andThen_ok];exact⟨rfl,rfl⟩
theorem qc {F:List Nat} {w0 w:World} {g:Nat} {t:TypeId} {cs:Array Value} (h:Blk w g t cs) (h0:Mod F w0 w) (hl:g < w0.heap.size) (hn:g∉F):∀v,Cls (Mod F w0) v→v.rangeAt g 0 cs.toList:=by rintro _ ⟨i,rfl⟩;have hb:Blk i.w g t cs:=(i.ok.block g hl hn).trans ((h0.block g hl hn).symm.trans h);intro j u hu;rw[Nat.zero_add,hb.cell j];simpa using hu
section
variable {P:Program} {l:List Oper} {Q:Exit→Act→World→Prop} {st:List Nat} {S:World→Prop}
theorem qn1 {ops:Array Oper} {o:Oper} {v:Value} {a:Act} (hp:qg2 o.op=true) (h:YieldsIn P ops (Cls S) o v a):YieldsIf P ops S o v a:=by
 rcases h with⟨hw,hv⟩ | h
 ·refine .inl ⟨hw,fun w hS=> ?_⟩;have:=hv w ⟨⟨w,hS⟩,rfl⟩;unfold Oper.quietAt at this;cases hr:(execOp a.eval o).run P w with
  | ok n w'=>obtain⟨u,rfl⟩:=jp8 hp hr;rw[hr]at this;obtain⟨rfl,rfl⟩:=this;rfl
  | halt x w'=>rw[hr]at this;cases this
 ·exact .inr h
def qf0 (l:List Oper) (st:List Nat):List (Bool×Nat)→Array Bool→Bool
 | [],listed=>(Region.ready .any l.toArray listed).isEmpty
 | (true,i) ::p,listed=>decide (i < l.length) && qg2 (l.getD i default).op && (l.getD i default).dst.isSome && (Region.ready .any l.toArray listed).contains i && Region.free .any l.toArray listed i &&
   (jg9 .any l.toArray st i && qe6 st listed && !st.contains i && qt6 .any l.toArray listed) && qf0 l st p (listed.setIfInBounds i true)
 | (false,i) ::p,listed=>decide (i < l.length) && decide (Region.ready .any l.toArray listed= [i]) && decide (listed.size=l.length) && qf0 l st p (listed.setIfInBounds i true)
def qg6 (P:Program) (l:List Oper) (Q:Exit→Act→World→Prop) (S:World→Prop) (st:List Nat):Bool→List (Bool×Nat)→Act→World→Prop
 | _,[],a,w=>Q .normal a w
 | late,(true,i) ::p,a,w=>∃v,YieldsIf P l.toArray S (l.getD i default) v a∧qg6 P l Q S st late p (a.put (l.getD i default).dst v) w
 | late,(false,i) ::p,a,w=>wpOp P l.toArray Q i (fun a' w'=>((!late && !st.contains i)=true→S w')∧qg6 P l Q S st (late || st.contains i) p a' w') a w
theorem qf7 {i:Nat} (h:i < l.length):l.toArray[i]? =some (l.getD i default):=by simp[h]
theorem qg5 (hQ:∀c a (d:Tmp) v w,Q (.panic c) (a.put (some d) v) w→Q (.panic c) a w) (hsel:Region.noSelect l.toArray=true):∀(late:Bool) (p:List (Bool×Nat)) (listed:Array Bool) (a:Act) (w:World),
  qf0 l st p listed=true→(qe6 st listed=true→late=false∧S w)→qg6 P l Q S st late p a w→q91 P .any l.toArray Q st S p.length listed a w
 | _,[],listed,a,w,hB,_,h=>⟨by simpa [qf0] using hB,h⟩
 | late,(true,i) ::p,listed,a,w,hB,hS,h=>by
  simp only[qf0,Bool.and_eq_true]at hB
  obtain⟨⟨⟨⟨⟨⟨h1,h2⟩,h3⟩,h4⟩,h5⟩,h6⟩,h7⟩:=hB
  have hi:=qf7 (by simpa using h1)
  obtain⟨d,hd⟩:=Option.isSome_iff_exists.1 h3
  obtain⟨v,hy,hr⟩:=h
  have hSw:=hS h6.1.1.2
  rw[hd]at hr
  exact z12 d hi hd hsel h5 h4 (by simpa only[Bool.and_eq_true] using h6) (fun c a w=>hQ c a d v w) hy hSw.2 (qg5 hQ hsel late p _ _ _ h7 (fun _=>hSw) hr)
 | late,(false,i) ::p,listed,a,w,hB,hS,h=>by
  simp only[qf0,Bool.and_eq_true,decide_eq_true_eq]at hB
  obtain⟨⟨⟨h1,h2⟩,h4⟩,h5⟩:=hB
  refine qk4 h2 (by simp) fun j hj=> ?_
  rw[List.mem_singleton]at hj
  subst hj
  refine wpOp_mono (fun a' w' ⟨k1,k2⟩=> ?_) h
  have hs:qe6 st (listed.setIfInBounds j true)=true→(late || st.contains j)=false∧S w':=by
   intro he
   have hj:st.contains j=false:=by
    cases hc:st.contains j with
    | false=>rfl
    | true=>
     have:=List.all_eq_true.1 he j (by simpa using hc)
     rw[Array.getD_eq_getD_getElem?,Array.getElem?_setIfInBounds,if_pos rfl,if_pos (by omega)]at this
     cases this
   have he0:qe6 st listed=true:=by
    unfold qe6 at he ⊢
    rw[List.all_eq_true]at he ⊢
    intro k hk
    have:=he k hk
    by_cases hjk:j=k
    ·subst hjk
     have:st.contains j=true:=by simpa using hk
     rw[hj]at this;cases this
    ·rwa [getD_set_ne false hjk]at this
   have hl:=(hS he0).1
   subst hl
   rw[hj]at k1 ⊢
   exact⟨rfl,k1 rfl⟩
  exact⟨fun he=>(hs he).2,qg5 hQ hsel _ p _ _ _ h5 hs k2⟩
theorem jd2 {P:Program} {o:Oper} {a:Act} {w:World} {K K':Act→World→Prop} {Q Q':Exit→Act→World→Prop} (h:∀a w,K a w→K' a w) (hq:∀x a w,x≠ .normal→Q x a w→Q' x a w)
  (hh:o.wp P a w K Q):o.wp P a w K' Q':=by
 unfold Oper.wp at *;generalize (execOp a.eval o).run P w=r at *;have hl:LetsOut Q→LetsOut Q':=fun ⟨a,w,h⟩=>⟨a,w,hq _ _ _ (by intro e;cases e) h⟩;cases r with
 | ok n w'=>
  cases n <;> simp only[Oper.upon]at hh ⊢ <;>
   first
    | exact h _ _ hh
    | exact Calls.mono hh (fun e w'' he=>by cases e <;> first | exact h _ _ he | exact hl he | exact hq _ _ _ (by intro e;cases e) he)
    | exact Rows.mono hh (fun _ _ he=>h _ _ he)
 | halt x w'=>cases x <;> simp only[Oper.upon]at hh ⊢ <;> first | exact hh | exact hq _ _ _ (by intro e;cases e) hh
def qr3:List (List Nat×Nat)→List Nat→List (Bool×Nat)
 | [],qe=>qe.map (true,·)
 | (qs,f) ::ph,qe=>qs.map (true,·)++ (false,f) ::qr3 ph qe
def Ph (S:World→Prop) (Q:Exit→Act→World→Prop) (need:Bool) (nx:Act→World→Prop) (x:Exit) (a:Act) (w:World):Prop:=(x=.normal→(need=true→S w)∧nx a w)∧(x≠ .normal→Q x a w)
theorem Ph.on {need:Bool} {nx:Act→World→Prop} {a:Act} {w:World} (hS:need=true→S w) (h:nx a w):Ph S Q need nx .normal a w:=⟨fun _=>⟨hS,h⟩,fun h=>absurd rfl h⟩
def jx9 (P:Program) (l:List Oper) (S:World→Prop) (Q:Exit→Act→World→Prop) (st:List Nat):Bool→List (List Nat×Nat)→List Nat→Act→World→Prop
 | _,[],qe,a,w=>wpQuiet P l.toArray (Cls S) (fun a'=>Q .normal a' w) (qe.map (l.getD · default)) a
 | late,(qs,f) ::ph,qe,a,w=>wpQuiet P l.toArray (Cls S) (fun a'=>wpList P l.toArray (Ph S Q (!late && !st.contains f) (jx9 P l S Q st (late || st.contains f) ph qe)) [l.getD f default] a' w) (qs.map (l.getD · default)) a
theorem qn8 {late:Bool} {Lq:Act→Prop} {p:List (Bool×Nat)} {w:World} (h0:∀a,Lq a→qg6 P l Q S st late p a w):∀(qs:List Nat) (a:Act),(∀i∈qs,i < l.length∧qg2 (l.getD i default).op=true)→wpQuiet P l.toArray (Cls S) Lq (qs.map (l.getD · default)) a→qg6 P l Q S st late (qs.map (true,·)++ p) a w
 | [],a,_,h=>h0 a h
 | i ::qs,a,hq,h=>by
  have hi:=qf7 (hq i (by simp)).1
  have h1:qOp P l.toArray (Cls S) i (wpQuiet P l.toArray (Cls S) Lq (qs.map (l.getD · default))) a:=by unfold qOp;rw[hi];exact h
  obtain⟨v,hy,hK⟩:=yieldsIn_of_qOp hi h1
  exact⟨v,qn1 (hq i (by simp)).2 hy,qn8 h0 qs _ (fun j hj=>hq j (by simp[hj])) hK⟩
theorem qs7:∀(qs:List Nat) (p:List (Bool×Nat)) (listed:Array Bool),qf0 l st (qs.map (true,·)++ p) listed=true→(∀i∈qs,i < l.length∧qg2 (l.getD i default).op=true)∧∃listed',qf0 l st p listed'=true
 | [],p,listed,h=>⟨by simp,listed,h⟩
 | i ::qs,p,listed,h=>by
  simp only[List.map_cons,List.cons_append,qf0,Bool.and_eq_true,decide_eq_true_eq]at h
  obtain⟨⟨⟨⟨⟨⟨h1,h2⟩,h3⟩,h4⟩,h5⟩,h6⟩,h7⟩:=h
  obtain⟨k1,k2⟩:=qs7 qs p _ h7
  refine⟨fun j hj=> ?_,k2⟩
  rcases List.mem_cons.1 hj with rfl | hj
  ·exact⟨h1,h2⟩
  ·exact k1 j hj
theorem qy0:∀(late:Bool) (ph:List (List Nat×Nat)) (qe:List Nat) (listed:Array Bool) (a:Act) (w:World),qf0 l st (qr3 ph qe) listed=true→jx9 P l S Q st late ph qe a w→qg6 P l Q S st late (qr3 ph qe) a w
 | late,[],qe,listed,a,w,hB,h=>by
  have hB':qf0 l st (qe.map (true,·)++ []) listed=true:=by rw[List.append_nil];exact hB
  have:=qn8 (st:=st) (late:=late) (Q:=Q) (p:= []) (w:=w) (fun a ha=>ha) qe a (qs7 qe [] listed hB').1 h
  rw[List.append_nil]at this
  exact this
 | late,(qs,f) ::ph,qe,listed,a,w,hB,h=>by
  obtain⟨k1,listed',k2⟩:=qs7 qs _ listed hB
  refine qn8 (fun a' h'=> ?_) qs a k1 h
  simp only[qf0,Bool.and_eq_true,decide_eq_true_eq]at k2
  obtain⟨⟨⟨h1,h2⟩,h4⟩,h5⟩:=k2
  have hi:=qf7 h1
  have hnx:∀a2 w2,Ph S Q (!late && !st.contains f) (jx9 P l S Q st (late || st.contains f) ph qe) .normal a2 w2→((!late && !st.contains f)=true→S w2)∧qg6 P l Q S st (late || st.contains f) (qr3 ph qe) a2 w2:=fun a2 w2 hb=>⟨(hb.1 rfl).1,qy0 _ ph qe _ a2 w2 h5 (hb.1 rfl).2⟩
  show wpOp P l.toArray Q f _ a' w
  unfold wpOp
  rw[hi]
  simp only
  unfold wpList at h'
  split
  ·rename_i hw
   rw[if_pos hw]at h'
   rcases h' with h' | h'
   ·exact .inl (jd2 (fun a2 w2 h2=>hnx a2 w2 h2) (fun x a2 w2 hx2 h2=>h2.2 hx2) h')
   ·obtain⟨g1,a2,w2,g2⟩:=h'
    exact .inr ⟨g1,a2,w2,g2.2 (by intro e;cases e)⟩
  ·rename_i hw
   rw[if_neg hw]at h'
   exact hnx _ _ h'
theorem q44 {id:Nat} {a:Act} {w:World} (S:World→Prop) (st:List Nat) (ph:List (List Nat×Nat)) (qe:List Nat) (hm:P.follows .mixedOrders=true)
  (hB:(Region.noSelect l.toArray && decide ((qr3 ph qe).length=l.length) && qf0 l st (qr3 ph qe) (Array.replicate l.toArray.size false))=true) (hQ:∀c a (d:Tmp) v w,Q (.panic c) (a.put (some d) v) w→Q (.panic c) a w) (hS:S w.drew)
  (h:jx9 P l S Q st false ph qe a w.drew):(Code.region id l.toArray true).wp P Q a w:=by
 simp only[Bool.and_eq_true,decide_eq_true_eq]at hB;refine qj5 st S hm ?_;have:=qg5 hQ hB.1.1 false _ _ a _ hB.2 (fun _=>⟨rfl,hS⟩) (qy0 false ph qe _ a _ hB.2 h);rw[hB.1.2]at this;simpa using this
end
theorem Blk.ne_size {w:World} {g g':Nat} {t t':TypeId} {cs cs':Array Value} (h:Blk w g t cs) (h':Blk w g' t' cs') (hne:cs.size≠cs'.size):g≠g':=fun e=>by subst e;have h2:some (Obj.cells cs t (0,0))=some (Obj.cells cs' t' (0,0)):=h.symm.trans h';injection h2 with h2;injection h2 with h2;exact hne (by rw[h2])
section
variable {P:Program}
theorem qk5 {ops:Array Oper} {rest:List Oper} {o:Oper} {a:Act} {w:World} {Q:Exit→Act→World→Prop} (hg:o.guard=none) (t:TypeId) (parts:Array (Nat×Operand)) (ho:o.op=.build t parts)
  (d:Option Tmp) (hd:o.dst=d) (vs:List (Nat×Value)) (hv:parts.toList.map (fun x=>(x.1,a.eval x.2))=vs) (cells:Array Value) (hf:P.built t vs=some cells)
  (h:wpList P ops Q rest (a.put d (.agg cells)) w):wpList P ops Q (o ::rest) a w:=by
 refine wpList_buildTo hg t parts ho d hd cells ?_ h;rw[←hf,←hv,Array.toList_map]
theorem q24 {ops:Array Oper} {rest:List Oper} {o:Oper} {a:Act} {w:World} {Q:Exit→Act→World→Prop} (hg:o.guard=none) (t e:TypeId) (len:Nat) (parts:Array (Nat×Operand)) (ho:o.op=.buildSlice t len parts) (d:Option Tmp) (hd:o.dst=d)
  (hu:P.underlying t=some (.slice e)) (z:Value) (sz:Nat) (hi:(P.info? e).map (fun i=>(i.zero,i.size))=some (some z,sz)) (hsmall:¬len * sz > 2 ^ 24) (hpos:¬len * sz=0) (vs:List (Nat×Value)) (hv:parts.toList.map (fun x=>(x.1,a.eval x.2))=vs)
  (cells:Array Value) (hf:Instr.fill (fun i=>some (i * sz,sz)) ((Array.range (len * sz)).map (z.cells[· % z.cells.size]!)) vs=some cells)
  (h:∀w',Mod [] w w'→Blk w' w.heap.size e cells→w'.heap.size=w.heap.size+1→wpList P ops Q rest (a.put d (.slice (some ⟨w.heap.size,0,none⟩) len len)) w'):wpList P ops Q (o ::rest) a w:=by
 obtain⟨i,h1,h2⟩:=Option.map_eq_some_iff.1 hi;simp only[Prod.mk.injEq]at h2;obtain⟨h2,rfl⟩:=h2;subst hd;refine wpList_buildSlice hg t e len parts ho cells i z hu h1 h2 hsmall hpos ?_ (h _ ((Mod.refl [] w).alloc _) (Blk.new w e cells) (World.size_alloc _ _));rw[←hf,←hv,Array.toList_map]
end
section
variable {P:Program} {l:List Oper} {Q:Exit→Act→World→Prop} {st:List Nat} {F:List Nat} {w0:World} {ia:Nat} {d:Tmp} {ty:TypeId} {zs:Array Value}
theorem ja4 (a:Act) (d:Tmp):a.put (some d) (a.tmps.getD d undef)=a:=by
 have:a.tmps.setIfInBounds d (a.tmps.getD d undef)=a.tmps:=by
  apply Array.ext (by simp);intro i h1 h2;rw[Array.getElem_setIfInBounds]
  split
  ·rename_i e;subst e;simp[Array.getD,h2]
  ·rfl
 show { a with tmps:=a.tmps.setIfInBounds d (a.tmps.getD d undef) } =a;rw[this]
theorem z08 (a:Act) (d:Tmp) (x y:Value):(a.put (some d) x).put (some d) y=a.put (some d) y:=by
 show({ a with tmps:=(a.tmps.setIfInBounds d x).setIfInBounds d y } :Act)= { a with tmps:=a.tmps.setIfInBounds d y };congr 1;apply Array.ext_getElem?;intro i;rw[Array.getElem?_setIfInBounds,Array.getElem?_setIfInBounds]
 split
 ·rename_i e;subst e;simp[Array.getElem?_setIfInBounds]
 ·rw[Array.getElem?_setIfInBounds,if_neg (by assumption)]
theorem jf9 (a:Act) {t:Option Tmp} {d:Tmp} (h:t≠some d) (v:Value):(a.put t v).tmps.getD d undef=a.tmps.getD d undef:=by
 cases t with
 | none=>rfl
 | some t=>have:t≠d:=fun e=>h (by rw[e]);show(a.tmps.setIfInBounds t v).getD d undef=_;rw[Array.getD_eq_getD_getElem?,Array.getD_eq_getD_getElem?,Array.getElem?_setIfInBounds,if_neg this]
theorem zi2 (a:Act) (t:Option Tmp) (v:Value):(a.put t v).tmps.size=a.tmps.size:=by cases t <;> simp[Act.put]
def Kept (t:Option Tmp) (a a':Act):Prop:=(∀d,t≠some d→a'.tmps.getD d undef=a.tmps.getD d undef)∧a'.tmps.size=a.tmps.size
theorem Kept.put (a:Act) (t:Option Tmp) (v:Value):Kept t a (a.put t v):=⟨fun d hd=>jf9 a hd v,zi2 a t v⟩
theorem zr2 {o:Oper} {a:Act} {w:World} {K:Act→World→Prop} (h:o.wp P a w K Q):o.wp P a w (fun a' w'=>K a' w'∧Kept o.dst a a') Q:=by
 unfold Oper.wp at *;generalize (execOp a.eval o).run P w=r at *;cases r with
 | ok n w'=>
  cases n <;> simp only[Oper.upon]at h ⊢ <;>
   first
    | exact⟨h,Kept.put _ _ _⟩
    | exact⟨h,Kept.put { a with defers:=_ } _ _⟩
    | exact Calls.mono h (fun e w'' he=>by cases e <;> first | exact⟨he,Kept.put _ _ _⟩ | exact he)
    | exact Rows.mono h (fun _ _ he=>⟨he,Kept.put _ _ _⟩)
    | exact h
 | halt x w'=>cases x <;> simp only[Oper.upon]at h ⊢ <;> exact h
theorem jh {i:Nat} {a:Act} {w:World} {K:Act→World→Prop} (hi:l.toArray[i]? =some (l.getD i default)) (h:wpOp P l.toArray Q i K a w):
  wpOp P l.toArray Q i (fun a' w'=>K a' w'∧Kept (l.getD i default).dst a a') a w:=by
 unfold wpOp at *;rw[hi]at h ⊢;simp only at h ⊢
 split
 ·rename_i hw;rw[if_pos hw]at h;exact h.imp zr2 id
 ·rename_i hw;rw[if_neg hw]at h;exact⟨h,Kept.put _ _ _⟩
def jj3 (l:List Oper) (st:List Nat) (i:Nat) (listed:Array Bool):Bool:=
 (Region.ready .any l.toArray listed).contains i && Region.free .any l.toArray listed i && (jg9 .any l.toArray st i && qe6 st listed && !st.contains i && qt6 .any l.toArray listed)
def q85 (l:List Oper) (st:List Nat) (ia:Nat) (d:Tmp) (rest:List (Bool×Nat)):List (Bool×Nat)→Array Bool→Bool
 | [],L=>decide (Region.ready .any l.toArray L= [ia]) && qf0 l st rest (L.setIfInBounds ia true)
 | (true,i) ::p,L=>decide (i < l.length) && decide (i≠ia) && qg2 (l.getD i default).op && (match (l.getD i default).dst with | some t=>decide (t≠d) | none=>false) && jj3 l st i L && jj3 l st i (L.setIfInBounds ia true) && q85 l st ia d rest p (L.setIfInBounds i true)
 | (false,i) ::p,L=>decide (i < l.length) && decide (i≠ia) && decide ((l.getD i default).dst≠some d) && (Region.ready .any l.toArray L).all (fun j=>j==i || j==ia) && !(Region.ready .any l.toArray L).isEmpty && decide (Region.ready .any l.toArray (L.setIfInBounds ia true)= [i]) && q85 l st ia d rest p (L.setIfInBounds i true)
def za3 (w0:World) (ty:TypeId) (zs:Array Value) (v:Value) (w:World):Prop:=∃g,v=.pointer (some ⟨g,0,none⟩)∧Blk w g ty zs∧w0.heap.size≤g
def qg7 (P:Program) (l:List Oper) (Q:Exit→Act→World→Prop) (F:List Nat) (w0:World) (d:Tmp) (ty:TypeId) (zs:Array Value) (R:Act→World→Prop):List (Bool×Nat)→Act→World→Prop
 | [],a,w=>∀x w',Mod [] w w'→za3 w0 ty zs x w'→R (a.put (some d) x) w'
 | (true,i) ::p,a,w=>∃v,YieldsIf P l.toArray (Mod F w0) (l.getD i default) v a∧qg7 P l Q F w0 d ty zs R p (a.put (l.getD i default).dst v) w
 | (false,i) ::p,a,w=>∀x w',Mod [] w w'→wpOp P l.toArray Q i (fun a' w''=>Mod F w' w''∧qg7 P l Q F w0 d ty zs R p a' w'') (a.put (some d) x) w'
variable (hQ:∀c a (d:Tmp) v w,Q (.panic c) (a.put (some d) v) w→Q (.panic c) a w) (hsel:Region.noSelect l.toArray=true) (hF:∀g∈F,g < w0.heap.size)
include hQ hsel hF
theorem qw6 {rest:List (Bool×Nat)} :∀(p:List (Bool×Nat)) (L:Array Bool) (a:Act) (w:World),q85 l st ia d rest p L=true→Mod F w0 w→za3 w0 ty zs (a.tmps.getD d undef) w→
  qg7 P l Q F w0 d ty zs (qg6 P l Q (Mod F w0) st false rest) p a w→q91 P .any l.toArray Q st (Mod F w0) (p.length+rest.length) (L.setIfInBounds ia true) a w
 | [],L,a,w,hB,hm,hD,h=>by
  simp only[q85,Bool.and_eq_true]at hB
  have:=h _ w (Mod.refl [] w) hD
  rw[ja4]at this
  rw[List.length_nil,Nat.zero_add]
  exact qg5 hQ hsel false rest _ a w hB.2 (fun _=>⟨rfl,hm⟩) this
 | (true,i) ::p,L,a,w,hB,hm,hD,h=>by
  simp only[q85,Bool.and_eq_true,decide_eq_true_eq]at hB
  obtain⟨⟨⟨⟨⟨⟨h1,h2⟩,h3⟩,h4⟩,h5⟩,h6⟩,h7⟩:=hB
  have hi:=qf7 h1
  cases hd:(l.getD i default).dst with
  | none=>rw[hd]at h4;cases h4
  | some t=>
   rw[hd]at h4
   obtain⟨v,hy,hr⟩:=h
   simp only[jj3,Bool.and_eq_true]at h6
   rw[hd]at hr
   rw[List.length_cons,show p.length+1+rest.length=(p.length+rest.length)+1 by omega]
   refine z12 t hi hd hsel h6.1.2 h6.1.1 (by simpa only[Bool.and_eq_true] using h6.2) (fun c a w=>hQ c a t v w) hy hm ?_
   rw[Array.setIfInBounds_comm _ _ (Ne.symm h2)]
   refine qw6 p _ _ w h7 hm ?_ hr
   rw[jf9 a (by intro e;cases e;simp at h4)]
   exact hD
 | (false,i) ::p,L,a,w,hB,hm,hD,h=>by
  simp only[q85,Bool.and_eq_true,decide_eq_true_eq]at hB
  obtain⟨⟨⟨⟨⟨⟨h1,h2⟩,h3⟩,h4⟩,h5⟩,h6⟩,h7⟩:=hB
  have h:=h (a.tmps.getD d undef) w (Mod.refl [] w)
  rw[ja4]at h
  rw[List.length_cons,show p.length+1+rest.length=(p.length+rest.length)+1 by omega]
  refine qk4 h6 (by simp) fun j hj=> ?_
  rw[List.mem_singleton]at hj
  subst hj
  refine wpOp_mono (fun a' w' ⟨⟨k1,k2⟩,k3⟩=> ?_) (jh (qf7 h1) h)
  have hm':Mod F w0 w':=hm.trans k1 (fun x hx=> .inl hx)
  refine⟨fun _=>hm',?_⟩
  rw[Array.setIfInBounds_comm _ _ (Ne.symm h2)]
  refine qw6 p _ a' w' h7 hm' ?_ k2
  rw[k3.1 d h3]
  obtain⟨g,g1,g2,g3⟩:=hD
  exact⟨g,g1,k1.blk g2 (fun hg=>by have:=hF g hg;omega),g3⟩
theorem jt7 {rest:List (Bool×Nat)} (hia:ia < l.length) (hd:(l.getD ia default).dst=some d) (hg:(l.getD ia default).guard=none) (hal:∀(a:Act) (w:World),(execOp a.eval (l.getD ia default)).run P w=.ok (.value (.pointer (some ⟨w.heap.size,0,none⟩))) (w.alloc (.cells zs ty))):
  ∀(p:List (Bool×Nat)) (L:Array Bool) (a:Act) (w:World),q85 l st ia d rest p L=true→Mod F w0 w→d < a.tmps.size→
  qg7 P l Q F w0 d ty zs (qg6 P l Q (Mod F w0) st false rest) p a w→q91 P .any l.toArray Q st (Mod F w0) (p.length+rest.length+1) L a w:=by
 have key:∀(p:List (Bool×Nat)) (L:Array Bool) (a:Act) (w:World),q85 l st ia d rest p L=true→Mod F w0 w→d < a.tmps.size→(∀x w',Mod [] w w'→za3 w0 ty zs x w'→qg7 P l Q F w0 d ty zs (qg6 P l Q (Mod F w0) st false rest) p (a.put (some d) x) w')→
   wpOp P l.toArray Q ia (fun a' w'=>qy3 st (Mod F w0) (L.setIfInBounds ia true) w'∧q91 P .any l.toArray Q st (Mod F w0) (p.length+rest.length) (L.setIfInBounds ia true) a' w') a w:=by
  intro p L a w hB hm hds h;unfold wpOp;rw[qf7 hia];simp only;rw[if_pos (by unfold Region.wanted;rw[hg])];refine .inl ?_;unfold Oper.wp;rw[hal a w];simp only[Oper.upon];rw[hd];have hma:=(Mod.refl [] w).alloc (.cells zs ty);have hm':Mod F w0 (w.alloc (.cells zs ty)):=hm.trans (hma.mono (by simp)) (fun x hx=> .inl hx);have hmd:za3 w0 ty zs (.pointer (some ⟨w.heap.size,0,none⟩)) (w.alloc (.cells zs ty)):=⟨_,rfl,Blk.new w ty zs,hm.size⟩;refine⟨fun _=>hm',qw6 hQ hsel hF p L _ _ hB hm' ?_ (h _ _ hma hmd)⟩;have:((a.put (some d) (.pointer (some ⟨w.heap.size,0,none⟩))).tmps.getD d undef)=.pointer (some ⟨w.heap.size,0,none⟩):=by show(a.tmps.setIfInBounds d _).getD d undef=_;rw[Array.getD_eq_getD_getElem?,Array.getElem?_setIfInBounds,if_pos rfl,if_pos hds];rfl
  rw[this];exact hmd
 intro p;induction p with
 | nil=>intro L a w hB hm hds h;have hB':=hB;simp only[q85,Bool.and_eq_true,decide_eq_true_eq]at hB;refine qk4 hB.1 (by simp) fun j hj=> ?_;rw[List.mem_singleton]at hj;subst hj;exact key [] L a w hB' hm hds (fun x w' m hx=>fun y w'' m' hy=>by rw[z08];exact h y w'' (m.trans m' (by simp)) hy)
 | cons s p ih=>
  obtain⟨b,i⟩:=s;cases b with
  | true=>
   intro L a w hB hm hds h;simp only[q85,Bool.and_eq_true,decide_eq_true_eq]at hB;obtain⟨⟨⟨⟨⟨⟨h1,h2⟩,h3⟩,h4⟩,h5⟩,h6⟩,h7⟩:=hB;have hi:=qf7 h1;cases hdi:(l.getD i default).dst with
   | none=>rw[hdi]at h4;cases h4
   | some t=>obtain⟨v,hy,hr⟩:=h;simp only[jj3,Bool.and_eq_true]at h5;rw[hdi]at hr;rw[List.length_cons,show p.length+1+rest.length+1=(p.length+rest.length+1)+1 by omega];exact z12 t hi hdi hsel h5.1.2 h5.1.1 (by simpa only[Bool.and_eq_true] using h5.2) (fun c a w=>hQ c a t v w) hy hm (ih _ _ w h7 hm (by simpa [Act.put] using hds) hr)
  | false=>
   intro L a w hB hm hds h;have hB':=hB;simp only[q85,Bool.and_eq_true,decide_eq_true_eq]at hB;obtain⟨⟨⟨⟨⟨⟨h1,h2⟩,h3⟩,h4⟩,h5⟩,h6⟩,h7⟩:=hB;rw[List.length_cons,show p.length+1+rest.length+1=(p.length+rest.length+1)+1 by omega];refine qk4 rfl (by intro e;rw[e]at h5;cases h5) fun j hj=> ?_;have hj2:=List.all_eq_true.1 h4 j hj;simp only[Bool.or_eq_true,beq_iff_eq]at hj2;rcases hj2 with rfl | rfl
   ·have h':=h (a.tmps.getD d undef) w (Mod.refl [] w);rw[ja4]at h';refine wpOp_mono (fun a' w' ⟨⟨k1,k2⟩,k3⟩=> ?_) (jh (qf7 h1) h');have hm':Mod F w0 w':=hm.trans k1 (fun x hx=> .inl hx);exact⟨fun _=>hm',ih _ a' w' h7 hm' (by rw[k3.2];exact hds) k2⟩
   ·have hk:=key ((false,i) ::p) L a w hB' hm hds (fun x w' m hx=>fun y w'' m'=>by rw[z08];exact h y w'' (m.trans m' (by simp)));rw[List.length_cons,show p.length+1+rest.length=p.length+rest.length+1 by omega]at hk;exact hk
omit hQ hsel hF
def PhF (F:List Nat) (Q:Exit→Act→World→Prop) (w:World) (nx:Act→World→Prop) (x:Exit) (a:Act) (w':World):Prop:=(x=.normal→Mod F w w'∧nx a w')∧(x≠ .normal→Q x a w')
theorem PhF.on {w w':World} {nx:Act→World→Prop} {a:Act} (hS:Mod F w w') (h:nx a w'):PhF F Q w nx .normal a w':=⟨fun _=>⟨hS,h⟩,fun h=>absurd rfl h⟩
def z14 (P:Program) (l:List Oper) (F:List Nat) (w0:World) (Q:Exit→Act→World→Prop) (d:Tmp) (ty:TypeId) (zs:Array Value) (R:Act→World→Prop) (qm:List Nat):List (List Nat×Nat)→Act→World→Prop
 | [],a,w=>wpQuiet P l.toArray (Cls (Mod F w0)) (fun a'=>∀x w',Mod [] w w'→za3 w0 ty zs x w'→R (a'.put (some d) x) w') (qm.map (l.getD · default)) a
 | (qs,f) ::ph,a,w=>wpQuiet P l.toArray (Cls (Mod F w0)) (fun a'=>∀x w',Mod [] w w'→wpList P l.toArray (PhF F Q w' (z14 P l F w0 Q d ty zs R qm ph)) [l.getD f default] (a'.put (some d) x) w') (qs.map (l.getD · default)) a
def je4 (qm:List Nat):List (List Nat×Nat)→List (Bool×Nat)
 | []=>qm.map (true,·)
 | (qs,f) ::ph=>qs.map (true,·)++ (false,f) ::je4 qm ph
theorem qs9 {R:Act→World→Prop} {Lq:Act→Prop} {p:List (Bool×Nat)} {w:World} (h0:∀a,Lq a→qg7 P l Q F w0 d ty zs R p a w):∀(qs:List Nat) (a:Act),(∀i∈qs,i < l.length∧qg2 (l.getD i default).op=true)→wpQuiet P l.toArray (Cls (Mod F w0)) Lq (qs.map (l.getD · default)) a→qg7 P l Q F w0 d ty zs R (qs.map (true,·)++ p) a w
 | [],a,_,h=>h0 a h
 | i ::qs,a,hq,h=>by
  have hi:=qf7 (hq i (by simp)).1
  have h1:qOp P l.toArray (Cls (Mod F w0)) i (wpQuiet P l.toArray (Cls (Mod F w0)) Lq (qs.map (l.getD · default))) a:=by unfold qOp;rw[hi];exact h
  obtain⟨v,hy,hK⟩:=yieldsIn_of_qOp hi h1
  exact⟨v,qn1 (hq i (by simp)).2 hy,qs9 h0 qs _ (fun j hj=>hq j (by simp[hj])) hK⟩
theorem qq2 {rest:List (Bool×Nat)} :∀(qs:List Nat) (p:List (Bool×Nat)) (L:Array Bool),q85 l st ia d rest (qs.map (true,·)++ p) L=true→(∀i∈qs,i < l.length∧qg2 (l.getD i default).op=true)∧∃L',q85 l st ia d rest p L'=true
 | [],p,L,h=>⟨by simp,L,h⟩
 | i ::qs,p,L,h=>by
  simp only[List.map_cons,List.cons_append,q85,Bool.and_eq_true,decide_eq_true_eq]at h
  obtain⟨⟨⟨⟨⟨⟨h1,h2⟩,h3⟩,h4⟩,h5⟩,h6⟩,h7⟩:=h
  obtain⟨k1,k2⟩:=qq2 qs p _ h7
  refine⟨fun j hj=> ?_,k2⟩
  rcases List.mem_cons.1 hj with rfl | hj
  ·exact⟨h1,h3⟩
  ·exact k1 j hj
theorem jr2 {R:Act→World→Prop} {rest:List (Bool×Nat)} {qm:List Nat} :∀(ph:List (List Nat×Nat)) (L:Array Bool) (a:Act) (w:World),q85 l st ia d rest (je4 qm ph) L=true→z14 P l F w0 Q d ty zs R qm ph a w→qg7 P l Q F w0 d ty zs R (je4 qm ph) a w
 | [],L,a,w,hB,h=>by
  have hB':q85 l st ia d rest (qm.map (true,·)++ []) L=true:=by rw[List.append_nil];exact hB
  have:=qs9 (R:=R) (p:= []) (w:=w) (Q:=Q) (F:=F) (w0:=w0) (d:=d) (ty:=ty) (zs:=zs) (fun a ha=>ha) qm a (qq2 qm [] L hB').1 h
  rw[List.append_nil]at this
  exact this
 | (qs,f) ::ph,L,a,w,hB,h=>by
  obtain⟨k1,L',k2⟩:=qq2 qs _ L hB
  refine qs9 (fun a' h'=> ?_) qs a k1 h
  simp only[q85,Bool.and_eq_true,decide_eq_true_eq]at k2
  obtain⟨⟨⟨⟨⟨⟨h1,_⟩,_⟩,_⟩,_⟩,_⟩,h7⟩:=k2
  intro x w' hm
  have h':=h' x w' hm
  have hnx:∀a2 w2,PhF F Q w' (z14 P l F w0 Q d ty zs R qm ph) .normal a2 w2→Mod F w' w2∧qg7 P l Q F w0 d ty zs R (je4 qm ph) a2 w2:=fun a2 w2 hb=>⟨(hb.1 rfl).1,jr2 ph _ a2 w2 h7 (hb.1 rfl).2⟩
  unfold wpOp
  rw[qf7 h1]
  simp only
  unfold wpList at h'
  split
  ·rename_i hw
   rw[if_pos hw]at h'
   rcases h' with h' | h'
   ·exact .inl (jd2 (fun a2 w2 h2=>hnx a2 w2 h2) (fun x a2 w2 hx2 h2=>h2.2 hx2) h')
   ·obtain⟨g1,a2,w2,g2⟩:=h'
    exact .inr ⟨g1,a2,w2,g2.2 (by intro e;cases e)⟩
  ·rename_i hw
   rw[if_neg hw]at h'
   exact hnx _ _ h'
theorem qj4 {id:Nat} {a:Act} {w:World} (F:List Nat) (st:List Nat) (ia:Nat) (d:Tmp) (ty:TypeId) (zs:Array Value) (ph:List (List Nat×Nat)) (qm:List Nat) (ph2:List (List Nat×Nat)) (qe:List Nat) (hm:P.follows .mixedOrders=true)
  (hB:(Region.noSelect l.toArray && decide ((je4 qm ph).length+(qr3 ph2 qe).length+1=l.length) && q85 l st ia d (qr3 ph2 qe) (je4 qm ph) (Array.replicate l.toArray.size false))=true) (hQ:∀c a (d:Tmp) v w,Q (.panic c) (a.put (some d) v) w→Q (.panic c) a w)
  (hF:∀g∈F,g < w.heap.size) (hia:ia < l.length) (hd:(l.getD ia default).dst=some d) (hg:(l.getD ia default).guard=none) (hal:∀(a:Act) (w:World),(execOp a.eval (l.getD ia default)).run P w=.ok (.value (.pointer (some ⟨w.heap.size,0,none⟩))) (w.alloc (.cells zs ty))) (hds:d < a.tmps.size)
  (h:z14 P l F w Q d ty zs (jx9 P l (Mod F w) Q st false ph2 qe) qm ph a w.drew):(Code.region id l.toArray true).wp P Q a w:=by
 simp only[Bool.and_eq_true,decide_eq_true_eq]at hB;refine qj5 st (Mod F w) hm ?_;have hrest:∀p L,q85 l st ia d (qr3 ph2 qe) p L=true→∃L',qf0 l st (qr3 ph2 qe) L'=true:=by
  intro p;induction p with
  | nil=>intro L h;simp only[q85,Bool.and_eq_true]at h;exact⟨_,h.2⟩
  | cons s p ih=>obtain⟨b,i⟩:=s;intro L h;cases b <;> simp only[q85,Bool.and_eq_true]at h <;> exact ih _ h.2
 obtain⟨L',hL'⟩:=hrest _ _ hB.2;have h2:=jr2 ph _ a _ hB.2 h;have mono:∀(p:List (Bool×Nat)) (a:Act) (w':World),qg7 P l Q F w d ty zs (jx9 P l (Mod F w) Q st false ph2 qe) p a w'→qg7 P l Q F w d ty zs (qg6 P l Q (Mod F w) st false (qr3 ph2 qe)) p a w':=by
  intro p;induction p with
  | nil=>intro a w' h x w'' m hx;exact qy0 false ph2 qe L' _ _ hL' (h x w'' m hx)
  | cons s p ih=>
   obtain⟨b,i⟩:=s;cases b with
   | true=>intro a w' h;obtain⟨v,h1,h2⟩:=h;exact⟨v,h1,ih _ _ h2⟩
   | false=>intro a w' h x w'' m;exact wpOp_mono (fun a2 w2 ⟨k1,k2⟩=>⟨k1,ih _ _ k2⟩) (h x w'' m)
 have:=jt7 (ty:=ty) (zs:=zs) hQ hB.1.1 hF hia hd hg hal _ _ a w.drew hB.2 (Mod.refl F w).drew hds (mono _ _ _ h2);rw[hB.1.2]at this;simpa using this
end
section
variable {P:Program}
theorem jw7 (w:World) (g:Nat) (cs:Array Value):Mod [g] w (w.setRow g cs):=
 ⟨rfl,rfl,rfl,by rw[size_setRow];exact Nat.le_refl _,fun k hk hn=>setRow_other w g k cs (by simpa using hn)⟩
theorem q01 {ops:Array Oper} {rest:List Oper} {op:Oper} {a:Act} {w:World} {Q:Exit→Act→World→Prop} (hgd:op.guard=none) (ty:TypeId) (x y:Operand) (ho:op.op=.store ty x y) (hd:op.dst=none)
  (g:Nat) (t:TypeId) (c c':Array Value) (hb:Blk w g t c) (hx:a.eval x=.pointer (some ⟨g,0,none⟩)) (hy:a.eval y=.agg c') (hi:(P.info? ty).map (·.size)=some c'.size) (hold:c.size=c'.size) (h1:c'.all (·.oneCell')=true)
  (h:∀w6,Mod [g] w w6→Blk w6 g t c'→w6.heap.size=w.heap.size→wpList P ops Q rest a w6):wpList P ops Q (op ::rest) a w:=by
 refine wpList_store_rowTo hgd ty x y ho hd g c' hx hy t c hb hi hold h1 ?_;exact h _ (jw7 w g c') (setRow_heap w g c c' t (0,0) hb) (size_setRow w g c')
def qx6 (cs:Array Value):Nat→List Value→Array Value
 | _,[]=>cs
 | o,v ::r=>qx6 (cs.setIfInBounds o v) (o+1) r
theorem j03 {g:Nat} {t:TypeId} :∀(vs:List Value) (o:Nat) (w:World) (cs:Array Value),Blk w g t cs→Blk (w.setCells g o vs) g t (qx6 cs o vs)∧Mod [g] w (w.setCells g o vs)∧(w.setCells g o vs).heap.size=w.heap.size
 | [],o,w,cs,h=>⟨h,Mod.refl _ _,rfl⟩
 | v ::r,o,w,cs,h=>by
  obtain⟨h1,h2,h3⟩:=j03 r (o+1) (w.setCell ⟨g,o,none⟩ v) (cs.setIfInBounds o v) (h.set_ o v)
  exact⟨h1,((Mod.refl [g] w).setCell (p:=⟨g,o,none⟩) (.inl (by simp)) v).trans h2 (fun x hx=> .inl hx),h3.trans (by simp[World.setCell])⟩
theorem qn0 {ops:Array Oper} {rest:List Oper} {op:Oper} {a:Act} {w:World} {Q:Exit→Act→World→Prop} (hgd:op.guard=none) (ty:TypeId) (x y:Operand) (ho:op.op=.store ty x y) (hd:op.dst=none)
  (g o:Nat) (t:TypeId) (c c' d:Array Value) (hb:Blk w g t c) (hx:a.eval x=.pointer (some ⟨g,o,none⟩)) (hy:a.eval y=.agg d) (hi:(P.info? ty).map (·.size)=some d.size) (hfit:o+d.size≤c.size) (hc:qx6 c o d.toList=c') (h1:d.all (·.oneCell')=true)
  (h:∀w6,Mod [g] w w6→Blk w6 g t c'→w6.heap.size=w.heap.size→wpList P ops Q rest a w6):wpList P ops Q (op ::rest) a w:=by
 refine wpList_store_mid hgd ty x y ho g o d hx hy (fun j hj=> ?_) hi h1 ?_
 ·refine⟨?_,hb.frozen _⟩;rw[hb.cell (o+j),Array.getElem?_eq_getElem (show o+j < c.size by omega)];rfl
 ·obtain⟨k1,k2,k3⟩:=j03 (t:=t) d.toList o w c hb;rw[hc]at k1;have e:a.put op.dst undef=a:=(by rw[hd];rfl);rw[e];exact h _ k2 k1 k3
theorem qh8 {ops:Array Oper} {rest:List Oper} {op:Oper} {a:Act} {w:World} {Q:Exit→Act→World→Prop} (hw:Region.wanted op (yielded ops a.tmps)=true) (ty:TypeId) (x:Operand) (ho:op.op=.load ty x)
  (b o:Nat) (hx:a.eval x=.pointer (some ⟨b,o,none⟩)) (cs:List Value) (d:TypeDesc) (hc:w.rangeAt b o cs) (hu:P.underlying ty=some d) (hd:d.isRow=true) (hi:(P.info? ty).map (·.size)=some cs.length)
  (h:wpList P ops Q rest (a.put op.dst (.agg cs.toArray)) w):wpList P ops Q (op ::rest) a w:=by
 unfold wpList;rw[if_pos hw];exact .inl (wp_load_mid ty x ho b o hx cs d hc hu hd hi h)
end
section
variable {P:Program} {ops:Array Oper} {C:World→Prop} {Q:Act→Prop} {a:Act} {o:Oper} {rest:List Oper}
theorem q30 (hg:Region.wanted o (yielded ops a.tmps)=true) (ty:TypeId) (x:Operand) (ho:o.op=.load ty x) (b off:Nat) (hx:a.eval x=.pointer (some ⟨b,off,none⟩)) (cs:List Value) (d:TypeDesc)
  (hc:∀w,C w→w.rangeAt b off cs) (hu:P.underlying ty=some d) (hd:d.isRow=true) (hi:(P.info? ty).map (·.size)=some cs.length) (h:wpQuiet P ops C Q rest (a.put o.dst (.agg cs.toArray))):wpQuiet P ops C Q (o ::rest) a:=
 wpQuiet_step fun K hK=>by
  rw[if_pos hg];refine⟨_,fun w hw=> ?_,hK _ h⟩;unfold Oper.quietAt execOp;simp only[ho,hx,Sem.run_bind,run_loadAt_mid w b off ty cs d (hc w hw) hu hd hi,Result.andThen_ok];exact⟨rfl,rfl⟩
theorem jd8 (hg:o.guard=none) (t:TypeId) (parts:Array (Nat×Operand)) (ho:o.op=.build t parts) (vs:List (Nat×Value)) (hv:parts.toList.map (fun x=>(x.1,a.eval x.2))=vs) (cells:Array Value) (hf:P.built t vs=some cells)
  (h:wpQuiet P ops C Q rest (a.put o.dst (.agg cells))):wpQuiet P ops C Q (o ::rest) a:=
 wpQuiet_step fun K hK=>by
  rw[if_pos (by unfold Region.wanted;rw[hg])];refine⟨_,fun w hw=> ?_,hK _ h⟩;have hb:P.built t (parts.map fun (i,x)=>(i,a.eval x)).toList=some cells:=(by rw[←hf,←hv,Array.toList_map]);unfold Oper.quietAt execOp;simp only[ho,Sem.run_bind,run_build w t _ cells hb,Result.andThen_ok];exact⟨rfl,rfl⟩
end
inductive Row
 | mk (b d kd lk af:Nat) (q:Bool)
def msk:List Nat→Nat
 | []=>0
 | t ::r=>msk r ||| (1 <<< t)
theorem qi (t i:Nat):(1 <<< t).testBit i=decide (t=i):=by rw[Nat.one_shiftLeft,Nat.testBit_two_pow]
theorem qu8 (i:Nat):∀l:List Nat,(msk l).testBit i=l.contains i
 | []=>by simp[msk]
 | t ::r=>by
  rw[msk,Nat.testBit_or,qu8 i r,qi,List.contains_cons,Bool.or_comm]
  congr 1
  by_cases h:t=i
  ·subst h;simp
  ·simp[h,Ne.symm h]
def qj0:Option Tmp→Nat
 | some d=>1 <<< d
 | none=>0
def qn9 (o:Oper):List Nat:=(o.after.toList.filter (Region.binds .any)).map fun e=>e.on
def jb6 (ops:Array Oper) (j:Nat) (o:Oper):Row:=.mk (1 <<< j) (qj0 o.dst) (msk (o.looksAt ops) ||| qj0 o.dst) (msk (o.looksAt ops)) (msk (qn9 o)) (qg2 o.op && o.dst.isSome)
def jd7 (ops:Array Oper):Nat→List Oper→List Row
 | _,[]=> []
 | j,o ::r=>jb6 ops j o ::jd7 ops (j+1) r
theorem qb5 (ops:Array Oper):∀(l:List Oper) (j k:Nat),(jd7 ops j l)[k]? =(l[k]?).map (jb6 ops (j+k))
 | [],_,_=>by simp[jd7]
 | o ::r,j,0=>rfl
 | o ::r,j,k+1=>by
  rw[jd7,List.getElem?_cons_succ,List.getElem?_cons_succ,qb5 ops r,show j+1+k=j+(k+1)by omega]
def fN:Nat→(Nat→Bool)→Bool
 | 0,k=>k 0
 | n+1,k=>k (n+1)
theorem qo4 (n:Nat) (k:Nat→Bool):fN n k=k n:=by cases n <;> rfl
def fB:Bool→(Bool→Bool)→Bool
 | true,k=>k true
 | false,k=>k false
theorem zw5 (b:Bool) (k:Bool→Bool):fB b k=k b:=by cases b <;> rfl
def zk2 (ops:Array Oper):Nat→List Oper→(List Row→Bool)→Bool
 | _,[],k=>k []
 | j,o ::r,k=>fN (1 <<< j) fun b=>fN (qj0 o.dst) fun d=>fN (msk (o.looksAt ops)) fun lk=>fN (lk ||| d) fun kd=>fN (msk (qn9 o)) fun af=>fB (qg2 o.op && o.dst.isSome) fun q=>zk2 ops (j+1) r fun T=>k (.mk b d kd lk af q ::T)
theorem jk8 (ops:Array Oper):∀(j:Nat) (l:List Oper) (k:List Row→Bool),zk2 ops j l k=k (jd7 ops j l)
 | _,[],_=>rfl
 | j,o ::r,k=>by rw[zk2,qo4,qo4,qo4,qo4,qo4,zw5,jk8 ops (j+1) r];rfl
noncomputable def qz2 (d lk m bi:Nat) (T:List Row):Bool:=
 @List.rec Row (fun _=>Bool) true (fun r _ ih=> @Row.rec (fun _=>Bool) (fun b d' kd _ af _=>
  @Bool.rec (fun _=>Bool) ih (@Bool.rec (fun _=>Bool) ih (@Bool.rec (fun _=>Bool) false (@Bool.rec (fun _=>Bool) false ih (Nat.beq (Nat.land d' lk) 0)) (Nat.beq (Nat.land d kd) 0)) (Nat.beq (Nat.land af bi) 0)) (Nat.beq (Nat.land b m) 0)) r) T
noncomputable def j37 (m m':Nat) (T:List Row):Bool:=
 @List.rec Row (fun _=>Bool) true (fun r _ ih=> @Row.rec (fun _=>Bool) (fun b _ _ _ af _=>
  @Bool.rec (fun _=>Bool) ih (@Bool.rec (fun _=>Bool) ih false (Nat.beq (Nat.land af m) af)) (Nat.beq (Nat.land b m') 0)) r) T
noncomputable def ja2 (l:List Oper) (st:List Nat) (T:List Row):List (Bool×Nat)→Nat→Bool
 | [],m=>j37 m m T
 | (true,i) ::p,m=>match T[i]? with
  | none=>false
  | some (.mk b d _ lk a q)=>q && Nat.beq (Nat.land b m) 0 && Nat.beq (Nat.land a m) a && fN (Nat.lor m b) fun m'=>qz2 d lk m' b T && (jg9 .any l.toArray st i && st.all (fun j=> !m.testBit j) && !st.contains i) && ja2 l st T p m'
 | (false,i) ::p,m=>match T[i]? with
  | none=>false
  | some (.mk b _ _ _ a _)=>Nat.beq (Nat.land b m) 0 && Nat.beq (Nat.land a m) a && fN (Nat.lor m b) fun m'=>j37 m m' T && ja2 l st T p m'
theorem qb3 {k m:Nat} :Nat.beq (Nat.land (1 <<< k) m) 0= !m.testBit k:=by
 rw[Bool.eq_iff_iff,Nat.beq_eq,Bool.not_eq_true'];refine⟨fun h=> ?_,fun h=>Nat.eq_of_testBit_eq fun i=> ?_⟩
 ·have:=congrArg (fun x=>Nat.testBit x k) h;have h2:((1 <<< k) &&& m).testBit k=false:=(by simpa using this);rw[Nat.testBit_and,qi]at h2;simpa using h2
 ·show((1 <<< k) &&& m).testBit i=_;rw[Nat.testBit_and,qi,Nat.zero_testBit];by_cases hki:k=i
  ·subst hki;rw[h];simp
  ·simp[hki]
theorem zk0 {a m:Nat} :Nat.beq (Nat.land a m) a=true↔∀i,a.testBit i=true→m.testBit i=true:=by
 rw[Nat.beq_eq];show a &&& m=a↔_;refine⟨fun h i hi=> ?_,fun h=>Nat.eq_of_testBit_eq fun i=> ?_⟩
 ·have:=congrArg (fun x=>Nat.testBit x i) h;simp only[Nat.testBit_and,hi,Bool.true_and]at this;exact this
 ·rw[Nat.testBit_and];cases ha:a.testBit i with
  | false=>rfl
  | true=>rw[h i ha];rfl
structure MaskOf (n:Nat) (L:Array Bool) (m:Nat):Prop where
 size:L.size=n
 bit:∀i,L.getD i false=m.testBit i
theorem MaskOf.set {n i:Nat} {L:Array Bool} {m:Nat} (h:MaskOf n L m) (hi:i < n):MaskOf n (L.setIfInBounds i true) (m ||| (1 <<< i)):=by
 refine⟨by rw[Array.size_setIfInBounds];exact h.size,fun j=> ?_⟩;rw[Nat.testBit_or,qi];by_cases hij:i=j
 ·subst hij;rw[Array.getD_eq_getD_getElem?,Array.getElem?_setIfInBounds,if_pos rfl,if_pos (by rw[h.size];exact hi)];simp
 ·rw[getD_set_ne false hij,h.bit];simp[hij]
theorem MaskOf.getT {n i:Nat} {L:Array Bool} {m:Nat} (h:MaskOf n L m) (hi:i < n):L.getD i true=m.testBit i:=by rw[←h.bit];have:i < L.size:=(by rw[h.size];exact hi);simp[this]
section
variable {l:List Oper} {L:Array Bool} {m:Nat}
theorem qc2 (h:MaskOf l.length L m) {i:Nat} {o:Oper} (hi:l[i]? =some o):i∈Region.ready .any l.toArray L↔m.testBit i=false∧Nat.beq (Nat.land (msk (qn9 o)) m) (msk (qn9 o))=true:=by
 have hlt:=(List.getElem?_eq_some_iff.1 hi).1;rw[mem_ready,h.getT hlt,zk0];refine and_congr_right fun _=>⟨fun ⟨o',ho',hall⟩ k hk=> ?_,fun hs=>⟨o,by simpa using hi,fun e he hb=> ?_⟩⟩
 ·have:o'=o:=by have h2:l[i]? =some o':=(by simpa using ho');rw[hi]at h2;exact(Option.some.inj h2).symm
  subst this;rw[qu8]at hk;have hk':k∈qn9 o':=(by simpa using hk);unfold qn9 at hk';simp only[List.mem_map,List.mem_filter]at hk';obtain⟨e,⟨he,hb⟩,rfl⟩:=hk';rw[←h.bit];exact hall e (by simpa using he) hb
 ·rw[h.bit];refine hs _ ?_;rw[qu8];have:e.on∈qn9 o:=(by unfold qn9;simp only[List.mem_map,List.mem_filter];exact⟨e,⟨by simpa using he,hb⟩,rfl⟩);simpa using this
theorem j82 {p:Nat→Bool} {i:Nat} :∀n,i < n→p i=true→(∀j,j < n→j≠i→p j=false)→(List.range n).filter p= [i]
 | 0,h,_,_=>by omega
 | n+1,h,hp,ho=>by
  rw[List.range_succ,List.filter_append]
  by_cases hin:i=n
  ·subst hin
   rw[show(List.range i).filter p= []from by
    rw[List.filter_eq_nil_iff]
    intro j hj
    have:=List.mem_range.1 hj
    rw[ho j (by omega) (by omega)]
    simp]
   simp[hp]
  ·rw[j82 n (by omega) hp (fun j hj=>ho j (by omega))]
   simp[ho n (by omega) (by omega)]
theorem ql5 {m':Nat} :∀T:List Row,j37 m m' T=true→∀(k b d kd lk a:Nat) (q:Bool),T[k]? =some (.mk b d kd lk a q)→Nat.beq (Nat.land b m') 0=true→Nat.beq (Nat.land a m) a=false
 | [],_,k,_,_,_,_,_,_,hk,_=>by simp at hk
 | .mk b1 d1 k1 l1 a1 q1 ::T,h,k,b,d,kd,lk,a,q,hk,hb=>by
  have h: @Bool.rec (fun _=>Bool) (j37 m m' T) (@Bool.rec (fun _=>Bool) (j37 m m' T) false (Nat.beq (Nat.land a1 m) a1)) (Nat.beq (Nat.land b1 m') 0)=true:=h
  have ht:j37 m m' T=true:=by
   cases e1:Nat.beq (Nat.land b1 m') 0 <;> rw[e1]at h
   ·exact h
   ·cases e2:Nat.beq (Nat.land a1 m) a1 <;> rw[e2]at h
    ·exact h
    ·cases h
  cases k with
  | zero=>
   rw[List.getElem?_cons_zero]at hk
   cases hk
   rw[hb]at h
   cases e2:Nat.beq (Nat.land a1 m) a1
   ·rfl
   ·rw[e2]at h;cases h
  | succ k=>exact ql5 T ht k b d kd lk a q hk hb
theorem j88 {d lk bi:Nat} :∀T:List Row,qz2 d lk m bi T=true→∀(k b d' kd lk' a:Nat) (q:Bool),T[k]? =some (.mk b d' kd lk' a q)→Nat.beq (Nat.land b m) 0=true→Nat.beq (Nat.land a bi) 0=false∨(Nat.land d kd=0∧Nat.land d' lk=0)
 | [],_,k,_,_,_,_,_,_,hk,_=>by simp at hk
 | .mk b1 d1 k1 l1 a1 q1 ::T,h,k,b,d',kd,lk',a,q,hk,hb=>by
  have h: @Bool.rec (fun _=>Bool) (qz2 d lk m bi T) (@Bool.rec (fun _=>Bool) (qz2 d lk m bi T) (@Bool.rec (fun _=>Bool) false (@Bool.rec (fun _=>Bool) false (qz2 d lk m bi T) (Nat.beq (Nat.land d1 lk) 0)) (Nat.beq (Nat.land d k1) 0)) (Nat.beq (Nat.land a1 bi) 0)) (Nat.beq (Nat.land b1 m) 0)=true:=h
  cases e1:Nat.beq (Nat.land b1 m) 0 <;> cases e2:Nat.beq (Nat.land a1 bi) 0 <;> cases e3:Nat.beq (Nat.land d k1) 0 <;> cases e4:Nat.beq (Nat.land d1 lk) 0 <;> rw[e1,e2,e3,e4]at h <;> first | (cases h;done) | skip
  all_goals
   have ht:qz2 d lk m bi T=true:=h
   cases k with
   | zero=>
    rw[List.getElem?_cons_zero]at hk
    cases hk
    first
     | (rw[hb]at e1;cases e1;done)
     | exact .inl e2
     | exact .inr ⟨Nat.eq_of_beq_eq_true e3,Nat.eq_of_beq_eq_true e4⟩
   | succ k=>exact j88 T ht k b d' kd lk' a q hk hb
theorem jy9 {d:Tmp} {x:Nat} (h:qj0 (some d) &&& x=0):x.testBit d=false:=by have:=congrArg (fun y=>Nat.testBit y d) h;simpa [qj0,qi] using this
theorem zm8 {o:Option Tmp} {d:Tmp} :(qj0 o).testBit d=decide (o=some d):=by
 cases o with
 | none=>simp[qj0]
 | some t=>rw[qj0,qi];simp
theorem za9 {ops:Array Oper} {x y:Oper} (h1:qj0 x.dst &&& (msk (y.looksAt ops) ||| qj0 y.dst)=0) (h2:qj0 y.dst &&& msk (x.looksAt ops)=0):x.apart ops y=true:=by
 unfold Oper.apart;rw[Bool.and_eq_true];constructor
 ·cases hd:x.dst with
  | none=>rfl
  | some d=>rw[hd]at h1;have:=jy9 h1;rw[Nat.testBit_or,Bool.or_eq_false_iff,qu8,zm8]at this;simp only[Bool.and_eq_true,Bool.not_eq_true',bne_iff_ne];exact⟨this.1,by simpa using this.2⟩
 ·cases hd:y.dst with
  | none=>rfl
  | some d=>rw[hd]at h2;have:=jy9 h2;rw[qu8]at this;simpa using this
theorem j70 (h:qr8 .any l.toArray L):qt6 .any l.toArray L=true:=by
 unfold qt6;rw[List.all_eq_true];intro k _;cases hk:L.getD k false with
 | false=>rfl
 | true=>rw[Bool.not_true,Bool.false_or,List.all_eq_true];exact fun x hx=>h k hk x hx
theorem j87 {i m:Nat} {o:Oper} (hm:MaskOf l.length L m) (hi:l[i]? =some o) (h4:qz2 (qj0 o.dst) (msk (o.looksAt l.toArray)) (Nat.lor m (1 <<< i)) (1 <<< i) (jd7 l.toArray 0 l)=true):Region.free .any l.toArray L i=true:=by
 unfold Region.free;rw[show l.toArray[i]? =some o by simpa using hi];simp only[List.all_eq_true,List.mem_range];intro j hj;have hj':j < l.length:=(by simpa using hj);have hjo:l[j]? =some l[j]:=List.getElem?_eq_getElem hj';rw[show l.toArray[j]? =some l[j]by simp[hjo]];by_cases hji:j=i
 ·simp[hji]
 ·rw[hm.getT hj'];cases hmj:m.testBit j with
  | true=>simp
  | false=>
   have:=j88 _ h4 j _ _ _ _ _ _ (by rw[qb5,hjo];rfl) (by rw[Nat.zero_add,qb3];show(!(m ||| 1 <<< i).testBit j)=true;rw[Nat.testBit_or,hmj,qi];simp[Ne.symm hji]);rcases this with h | h
   ·have h':(msk (qn9 l[j])).testBit i=true:=by have e:Nat.land (msk (qn9 l[j])) (1 <<< i)=Nat.land (1 <<< i) (msk (qn9 l[j])):=Nat.and_comm _ _;rw[e,qb3]at h;simpa using h
    rw[qu8]at h';have h':i∈qn9 l[j]:=(by simpa using h');unfold qn9 at h';simp only[List.mem_map,List.mem_filter]at h';obtain⟨e,⟨he,hb⟩,hei⟩:=h';have:(l[j].after.any fun e=>Region.binds .any e && e.on==i)=true:=(by rw[Array.any_eq_true'];exact⟨e,by simpa using he,by simp[hb,hei]⟩);simp[this]
   ·have:=za9 (ops:=l.toArray) (x:=o) (y:=l[j]) h.1 h.2;simp[this]
theorem qw9 {st:List Nat} :∀(p:List (Bool×Nat)) (L:Array Bool) (m:Nat),MaskOf l.length L m→qr8 .any l.toArray L→ja2 l st (jd7 l.toArray 0 l) p m=true→qf0 l st p L=true
 | [],L,m,hm,_,h=>by
  rw[ja2]at h
  rw[qf0,List.isEmpty_iff,List.eq_nil_iff_forall_not_mem]
  intro i hi
  obtain⟨_,o,ho,_⟩:=mem_ready.1 hi
  have hi':l[i]? =some o:=by simpa using ho
  have h1:=(qc2 hm hi').1 hi
  have:=ql5 _ h i _ _ _ _ _ _ (by rw[qb5,hi'];rfl) (by rw[Nat.zero_add,qb3,h1.1];rfl)
  rw[h1.2]at this
  cases this
 | (true,i) ::p,L,m,hm,hc,h=>by
  rw[ja2,qb5,Nat.zero_add]at h
  cases hi:l[i]? with
  | none=>rw[hi]at h;cases h
  | some o=>
   rw[hi,Option.map_some]at h
   simp only[jb6]at h
   rw[qo4,Bool.and_eq_true,Bool.and_eq_true,Bool.and_eq_true]at h
   obtain⟨⟨⟨h1,h2⟩,h3⟩,h⟩:=h
   rw[Bool.and_eq_true,Bool.and_eq_true]at h
   obtain⟨⟨h4,h5⟩,h6⟩:=h
   have hlt:=(List.getElem?_eq_some_iff.1 hi).1
   have hr:i∈Region.ready .any l.toArray L:=(qc2 hm hi).2 ⟨by rw[qb3]at h2;simpa using h2,h3⟩
   have hgd:l.getD i default=o:=by rw[List.getD_eq_getElem?_getD,hi];rfl
   rw[Bool.and_eq_true]at h1
   rw[Bool.and_eq_true,Bool.and_eq_true]at h5
   rw[qf0,hgd,Bool.and_eq_true,Bool.and_eq_true,Bool.and_eq_true,Bool.and_eq_true,Bool.and_eq_true,Bool.and_eq_true,Bool.and_eq_true,Bool.and_eq_true,Bool.and_eq_true]
   refine⟨⟨⟨⟨⟨⟨decide_eq_true hlt,h1.1⟩,h1.2⟩,by simpa using hr⟩,?_⟩,⟨⟨⟨h5.1.1,?_⟩,h5.2⟩,j70 hc⟩⟩,qw9 p _ _ (hm.set hlt) (qh1 hc hr) h6⟩
   ·exact j87 hm hi h4
   ·unfold qe6
    rw[List.all_eq_true]at h5 ⊢
    intro j hj
    have:=h5.1.2 j hj
    rw[hm.bit]
    exact this
 | (false,i) ::p,L,m,hm,hc,h=>by
  rw[ja2,qb5,Nat.zero_add]at h
  cases hi:l[i]? with
  | none=>rw[hi]at h;cases h
  | some o=>
   rw[hi,Option.map_some]at h
   simp only[jb6]at h
   rw[qo4,Bool.and_eq_true,Bool.and_eq_true]at h
   obtain⟨⟨h2,h3⟩,h⟩:=h
   rw[Bool.and_eq_true]at h
   obtain⟨h4,h6⟩:=h
   have hlt:=(List.getElem?_eq_some_iff.1 hi).1
   have hr:i∈Region.ready .any l.toArray L:=(qc2 hm hi).2 ⟨by rw[qb3]at h2;simpa using h2,h3⟩
   rw[qf0,Bool.and_eq_true,Bool.and_eq_true,Bool.and_eq_true]
   refine⟨⟨⟨decide_eq_true hlt,?_⟩,decide_eq_true hm.size⟩,qw9 p _ _ (hm.set hlt) (qh1 hc hr) h6⟩
   rw[decide_eq_true_eq]
   have hr':=hr
   unfold Region.ready at hr' ⊢
   rw[List.mem_filter]at hr'
   refine j82 _ (show i < l.toArray.size from hlt) hr'.2 fun j hj hne=> ?_
   have hj':j < l.length:=by simpa using hj
   have hjo:l[j]? =some l[j]:=List.getElem?_eq_getElem hj'
   refine Bool.eq_false_iff.2 fun hh=> ?_
   have hjr:j∈Region.ready .any l.toArray L:=by
    unfold Region.ready
    rw[List.mem_filter]
    exact⟨List.mem_range.2 hj,hh⟩
   have h1:=(qc2 hm hjo).1 hjr
   have:=ql5 _ h4 j _ _ _ _ _ _ (by rw[qb5,hjo];rfl) (by
    rw[Nat.zero_add,qb3]
    show(!(m ||| 1 <<< i).testBit j)=true
    rw[Nat.testBit_or,h1.1,qi]
    simp[Ne.symm hne])
   rw[h1.2]at this
   cases this
end
noncomputable def zs6 (l:List Oper) (st:List Nat) (p:List (Bool×Nat)):Bool:=
 Region.noSelect l.toArray && decide (p.length=l.length) && zk2 l.toArray 0 l fun T=>ja2 l st T p 0
theorem z23 {l:List Oper} {st:List Nat} {p:List (Bool×Nat)} (h:zs6 l st p=true):(Region.noSelect l.toArray && decide (p.length=l.length) && qf0 l st p (Array.replicate l.toArray.size false))=true:=by
 unfold zs6 at h;rw[jk8,Bool.and_eq_true]at h;rw[Bool.and_eq_true];refine⟨h.1,qw9 p _ 0 ⟨by simp,fun i=> ?_⟩ (fun k hk=> ?_) h.2⟩
 ·rw[Nat.zero_testBit,Array.getD_eq_getD_getElem?,Array.getElem?_replicate]
  split <;> rfl
 ·rw[Array.getD_eq_getD_getElem?,Array.getElem?_replicate]at hk
  split at hk <;> cases hk
theorem q78 {P:Program} {l:List Oper} {Q:Exit→Act→World→Prop} {id:Nat} {a:Act} {w:World} (S:World→Prop) (st:List Nat) (ph:List (List Nat×Nat)) (qe:List Nat) (hm:P.follows .mixedOrders=true)
  (hB:zs6 l st (qr3 ph qe)=true) (hQ:∀c a (d:Tmp) v w,Q (.panic c) (a.put (some d) v) w→Q (.panic c) a w) (hS:S w.drew)
  (h:jx9 P l S Q st false ph qe a w.drew):(Code.region id l.toArray true).wp P Q a w:=
 q44 S st ph qe hm (z23 hB) hQ hS h
inductive PTr
 | done
 | quiet (qs:List Nat) (t:PTr)
 | free (qs:List Nat) (t:PTr)
 | act (i:Nat) (t:PTr) (r:PTr)
 | none
def PTr.alts:PTr→List (Nat×PTr)
 | .act i t r=>(i,t) ::r.alts
 | _=> []
def PTr.dep:PTr→Nat
 | .quiet qs t=>qs.length+t.dep
 | .free qs t=>qs.length+t.dep
 | .act _ t r=>max (t.dep+1) r.dep
 | _=>0
section
variable {P:Program} {l:List Oper} {Q:Exit→Act→World→Prop} {st:List Nat} {S:World→Prop}
def ql8 (P:Program) (l:List Oper) (S:World→Prop) (Q:Exit→Act→World→Prop) (st:List Nat):Bool→PTr→Act→World→Prop
 | _,.done,a,w=>Q .normal a w
 | late,.quiet qs t,a,w=>wpQuiet P l.toArray (Cls S) (fun a'=>ql8 P l S Q st late t a' w) (qs.map (l.getD · default)) a
 | late,.free qs t,a,w=>wpQuiet P l.toArray (Cls fun _=>True) (fun a'=>ql8 P l S Q st late t a' w) (qs.map (l.getD · default)) a
 | late,.act i t r,a,w=>wpList P l.toArray (Ph S Q (!late && !st.contains i) (ql8 P l S Q st (late || st.contains i) t)) [l.getD i default] a w∧ql8 P l S Q st late r a w
 | _,.none,_,_=>True
noncomputable def zp4 (l:List Oper) (st:List Nat) (T:List Row):List Nat→Nat→(Nat→Bool)→Bool
 | [],m,k=>k m
 | i ::qs,m,k=>match T[i]? with
  | none=>false
  | some (.mk b d _ lk a q)=>q && Nat.beq (Nat.land b m) 0 && Nat.beq (Nat.land a m) a && fN (Nat.lor m b) fun m'=>qz2 d lk m' b T && (jg9 .any l.toArray st i && st.all (fun j=> !m.testBit j) && !st.contains i) && zp4 l st T qs m' k
noncomputable def zn9 (l:List Oper) (st:List Nat) (T:List Row):List Nat→Nat→(Nat→Bool)→Bool
 | [],m,k=>k m
 | i ::qs,m,k=>match T[i]? with
  | none=>false
  | some (.mk b d _ lk a q)=>q && Nat.beq (Nat.land b m) 0 && Nat.beq (Nat.land a m) a && fN (Nat.lor m b) fun m'=>qz2 d lk m' b T && !st.contains i && zn9 l st T qs m' k
noncomputable def qd7 (l:List Oper) (st:List Nat) (T:List Row):PTr→Nat→Nat→Bool
 | .done,m,s=>Nat.beq s 0 && j37 m m T
 | .quiet qs t,m,s=>Nat.beq s 0 && zp4 l st T qs m fun m'=>qd7 l st T t m' 0
 | .free qs t,m,s=>Nat.beq s 0 && zn9 l st T qs m fun m'=>qd7 l st T t m' 0
 | .act i t r,m,s=>match T[i]? with
  | none=>false
  | some (.mk b _ _ _ a _)=>Nat.beq (Nat.land b m) 0 && Nat.beq (Nat.land a m) a && fN (Nat.lor m b) fun m'=>qd7 l st T t m' 0 && fN (Nat.lor s b) fun s'=>qd7 l st T r m s'
 | .none,m,s=>fN (Nat.lor m s) fun m'=>j37 m m' T && !Nat.beq s 0
theorem jg4 {m:Nat} {L:Array Bool} (hm:MaskOf l.length L m):∀(r:PTr) (s:Nat),qd7 l st (jd7 l.toArray 0 l) r m s=true→(s=0→∃i t q,r=.act i t q)→
  (∀p∈r.alts,p.1 < l.length∧p.1∈Region.ready .any l.toArray L∧qd7 l st (jd7 l.toArray 0 l) p.2 (m ||| (1 <<< p.1)) 0=true)∧
  (∀j∈Region.ready .any l.toArray L,s.testBit j=true∨∃p∈r.alts,p.1=j)
 | .done,s,h,hs=>by rw[qd7,Bool.and_eq_true,Nat.beq_eq]at h;obtain⟨_,_,_,e⟩:=hs h.1;cases e
 | .quiet qs t,s,h,hs=>by rw[qd7,Bool.and_eq_true,Nat.beq_eq]at h;obtain⟨_,_,_,e⟩:=hs h.1;cases e
 | .free qs t,s,h,hs=>by rw[qd7,Bool.and_eq_true,Nat.beq_eq]at h;obtain⟨_,_,_,e⟩:=hs h.1;cases e
 | .none,s,h,hs=>by
  refine⟨fun p hp=>(by cases hp),fun j hj=> .inl ?_⟩
  rw[qd7,qo4,Bool.and_eq_true]at h
  obtain⟨_,o,ho,_⟩:=mem_ready.1 hj
  have ho':l[j]? =some o:=by simpa using ho
  have h1:=(qc2 hm ho').1 hj
  cases hb:s.testBit j with
  | true=>rfl
  | false=>
   have:=ql5 _ h.1 j _ _ _ _ _ _ (by rw[qb5,ho'];rfl) (by
    rw[Nat.zero_add,qb3]
    show(!(m ||| s).testBit j)=true
    rw[Nat.testBit_or,h1.1,hb];rfl)
   rw[h1.2]at this
   cases this
 | .act i t r,s,h,hs=>by
  rw[qd7,qb5,Nat.zero_add]at h
  cases hi:l[i]? with
  | none=>rw[hi]at h;cases h
  | some o=>
   rw[hi,Option.map_some]at h
   simp only[jb6]at h
   rw[qo4,qo4,Bool.and_eq_true,Bool.and_eq_true,Bool.and_eq_true]at h
   obtain⟨⟨h1,h2⟩,h3,h4⟩:=h
   have hlt:=(List.getElem?_eq_some_iff.1 hi).1
   have hr:i∈Region.ready .any l.toArray L:=(qc2 hm hi).2 ⟨by rw[qb3]at h1;simpa using h1,h2⟩
   have hsb:(s ||| (1 <<< i))≠0:=by
    intro e
    have:=congrArg (fun x=>Nat.testBit x i) e
    simp only[Nat.testBit_or,qi,Nat.zero_testBit]at this
    simp at this
   obtain⟨k1,k2⟩:=jg4 hm r _ h4 (fun e=>absurd e hsb)
   refine⟨fun p hp=> ?_,fun j hj=> ?_⟩
   ·rcases List.mem_cons.1 hp with rfl | hp
    ·exact⟨hlt,hr,h3⟩
    ·exact k1 p hp
   ·rcases k2 j hj with h | ⟨p,hp,e⟩
    ·rw[show Nat.lor s (1 <<< i)=s ||| (1 <<< i)from rfl,Nat.testBit_or,Bool.or_eq_true,qi,decide_eq_true_eq]at h
     rcases h with h | h
     ·exact .inl h
     ·exact .inr ⟨(i,t),List.mem_cons_self ..,h⟩
    ·exact .inr ⟨p,List.mem_cons_of_mem _ hp,e⟩
theorem jh0 {late:Bool} {a:Act} {w:World} :∀ {r:PTr},ql8 P l S Q st late r a w→∀p∈r.alts,wpList P l.toArray (Ph S Q (!late && !st.contains p.1) (ql8 P l S Q st (late || st.contains p.1) p.2)) [l.getD p.1 default] a w
 | .done,_,p,hp=>by cases hp
 | .quiet _ _,_,p,hp=>by cases hp
 | .free _ _,_,p,hp=>by cases hp
 | .none,_,p,hp=>by cases hp
 | .act i t r,h,p,hp=>by
  rw[ql8]at h
  rcases List.mem_cons.1 hp with rfl | hp
  ·exact h.1
  ·exact jh0 h.2 p hp
theorem qw2 {L:Array Bool} {j:Nat} (hj:j < L.size) (he:qe6 st (L.setIfInBounds j true)=true):st.contains j=false∧qe6 st L=true:=by
 have hc:st.contains j=false:=by
  cases hc:st.contains j with
  | false=>rfl
  | true=>have:=List.all_eq_true.1 he j (by simpa using hc);rw[Array.getD_eq_getD_getElem?,Array.getElem?_setIfInBounds,if_pos rfl,if_pos hj]at this;cases this
 refine⟨hc,?_⟩;unfold qe6 at he ⊢;rw[List.all_eq_true]at he ⊢;intro k hk;have:=he k hk;by_cases hjk:j=k
 ·subst hjk;have:st.contains j=true:=(by simpa using hk);rw[hc]at this;cases this
 ·rwa [getD_set_ne false hjk]at this
theorem js0 {ops:Array Oper} {md:Region.Mode} {i:Nat} {oi:Oper} {v:Value} (hi:ops[i]? =some oi) (hsel:∀(j:Nat) (o:Oper) cs b,ops[j]? =some o→o.op≠ .select cs b)
  (hQ:∀c a w,Q (.panic c) (a.put oi.dst v) w→Q (.panic c) a w) (hist:i∉st):
  ∀(fuel:Nat) (listed:Array Bool) (a:Act) (w:World),
   (∀j oj,ops[j]? =some oj→j≠i→listed.getD j true=false→(∀e∈oj.after,Region.binds md e=true→e.on≠i)→oi.apart ops oj=true)→
   i∈Region.ready md ops listed→YieldsIf P ops (fun _=>True) oi v a→qy3 st S listed w→
   q91 P md ops Q st S fuel (listed.setIfInBounds i true) (a.put oi.dst v) w→q91 P md ops Q st S (fuel+1) listed a w:=by
 have hU:∀ {listed:Array Bool} {w:World},i∈Region.ready md ops listed→qy3 st S listed w→qy3 st S (listed.setIfInBounds i true) w:=fun hr h he=>h (qw2 (by
  have:=(mem_ready.1 hr).1
  rcases Nat.lt_or_ge i _ with h' | h'
  ·exact h'
  ·simp[Array.getElem?_eq_none h']at this) he).2
 intro fuel;induction fuel with
 | zero=>
  intro listed a w _ hr hy hS H;refine⟨fun h=>(by rw[h]at hr;cases hr),fun j hj=> ?_⟩;by_cases hji:j=i
  ·subst hji;exact hy.wpOp hi trivial ⟨hU hr hS,H⟩
  ·have:=ready_mono hj hji;rw[H.1]at this;cases this
 | succ fuel ih=>
  intro listed a w hfree hr hy hS H;refine⟨fun h=>(by rw[h]at hr;cases hr),fun j hj=> ?_⟩;by_cases hji:j=i
  ·subst hji;exact hy.wpOp hi trivial ⟨hU hr hS,H⟩
  ·have h1:=H.2 j (ready_mono hj hji);obtain⟨hjun,oj,hoj,hall⟩:=mem_ready.1 hj;have hnot:∀e∈oj.after,Region.binds md e=true→e.on≠i:=fun e he hb heq=>by
    have h2:=hall e he hb;have h3:=(mem_ready.1 hr).1;rw[heq]at h2;rcases Nat.lt_or_ge i listed.size with h' | h'
    ·simp[h']at h2 h3;rw[h3]at h2;cases h2
    ·simp[Array.getElem?_eq_none h']at h2
   have h2:=wpOp_putIf hoj (hfree j oj hoj hji hjun hnot) (fun cs b=>hsel i oi cs b hi) (fun cs b=>hsel j oj cs b hoj) hQ hy h1
   have hfree':∀k ok,ops[k]? =some ok→k≠i→(listed.setIfInBounds j true).getD k true=false→
     (∀e∈ok.after,Region.binds md e=true→e.on≠i)→oi.apart ops ok=true:=fun k ok hk hki hun hno=>by
    refine hfree k ok hk hki ?_ hno;by_cases hjk:j=k
    ·subst hjk;exact hjun
    ·rw[getD_set_ne true hjk]at hun;exact hun
   refine wpOp_mono (fun a' w' h3=> ?_) h2;have hS':qy3 st S (listed.setIfInBounds j true) w':=fun he=>h3.2.1 (by rw[Array.setIfInBounds_comm _ _ (Ne.symm hji)];exact j09 he hist);refine⟨hS',ih (listed.setIfInBounds j true) a' w' hfree' (ready_mono hr (Ne.symm hji)) h3.1 hS' ?_⟩;rw[Array.setIfInBounds_comm _ _ hji];exact h3.2.2
theorem zz7 {ops:Array Oper} {md:Region.Mode} {i:Nat} {oi:Oper} {v:Value} {fuel:Nat} {listed:Array Bool} {a:Act} {w:World} (d:Nat) (hi:ops[i]? =some oi) (hd:oi.dst=some d)
  (hs:Region.noSelect ops=true) (hf:Region.free md ops listed i=true) (hr:(Region.ready md ops listed).contains i=true) (hist:i∉st)
  (hQ:∀c a w,Q (.panic c) (a.put (some d) v) w→Q (.panic c) a w) (hy:YieldsIf P ops (fun _=>True) oi v a) (hS:qy3 st S listed w)
  (h:q91 P md ops Q st S fuel (listed.setIfInBounds i true) (a.put (some d) v) w):q91 P md ops Q st S (fuel+1) listed a w:=
 js0 hi (Region.noSelect_spec hs) (by rw[hd];exact hQ) hist fuel listed a w (Region.free_spec hi hf) (by simpa using hr) hy hS (by rw[hd];exact h)
variable (hQ:∀c a (d:Tmp) v w,Q (.panic c) (a.put (some d) v) w→Q (.panic c) a w) (hsel:Region.noSelect l.toArray=true)
def CTr (P:Program) (l:List Oper) (S:World→Prop) (Q:Exit→Act→World→Prop) (st:List Nat) (t:PTr):Prop:=
 ∀(late:Bool) (L:Array Bool) (m:Nat) (a:Act) (w:World) (fuel:Nat),MaskOf l.length L m→qr8 .any l.toArray L→qd7 l st (jd7 l.toArray 0 l) t m 0=true→t.dep≤fuel→
  (qe6 st L=true→late=false∧S w)→ql8 P l S Q st late t a w→q91 P .any l.toArray Q st S fuel L a w
include hQ hsel in
theorem je {t:PTr} (ht:CTr P l S Q st t):∀qs:List Nat,CTr P l S Q st (.quiet qs t)
 | [],late,L,m,a,w,fuel,hm,hc,hB,hd,hS,h=>by
  rw[qd7,Bool.and_eq_true,zp4]at hB
  rw[PTr.dep,List.length_nil,Nat.zero_add]at hd
  exact ht late L m a w fuel hm hc hB.2 hd hS h
 | i ::qs,late,L,m,a,w,fuel,hm,hc,hB,hd,hS,h=>by
  rw[qd7,Bool.and_eq_true,zp4,qb5,Nat.zero_add]at hB
  have hB:=hB.2
  cases hi:l[i]? with
  | none=>rw[hi]at hB;cases hB
  | some o=>
   rw[hi,Option.map_some]at hB
   simp only[jb6]at hB
   rw[qo4,Bool.and_eq_true,Bool.and_eq_true,Bool.and_eq_true]at hB
   obtain⟨⟨⟨h1,h2⟩,h3⟩,hB⟩:=hB
   rw[Bool.and_eq_true,Bool.and_eq_true]at hB
   obtain⟨⟨h4,h5⟩,h6⟩:=hB
   have hlt:=(List.getElem?_eq_some_iff.1 hi).1
   have hr:i∈Region.ready .any l.toArray L:=(qc2 hm hi).2 ⟨by rw[qb3]at h2;simpa using h2,h3⟩
   have hgd:l.getD i default=o:=by rw[List.getD_eq_getElem?_getD,hi];rfl
   rw[Bool.and_eq_true]at h1
   obtain⟨d,hdst⟩:=Option.isSome_iff_exists.1 h1.2
   rw[PTr.dep,List.length_cons]at hd
   obtain⟨f,rfl⟩:∃f,fuel=f+1:=⟨fuel - 1,by omega⟩
   have hio:l.toArray[i]? =some o:=by simpa using hi
   have h0:wpQuiet P l.toArray (Cls S) (fun a'=>ql8 P l S Q st late t a' w) (o ::qs.map (l.getD · default)) a:=by
    have:=h
    rw[ql8,List.map_cons,hgd]at this
    exact this
   have hq1:qOp P l.toArray (Cls S) i (wpQuiet P l.toArray (Cls S) (fun a'=>ql8 P l S Q st late t a' w) (qs.map (l.getD · default))) a:=by unfold qOp;rw[hio];exact h0
   obtain⟨v,hy,hK⟩:=yieldsIn_of_qOp hio hq1
   have hy':=qn1 h1.1 hy
   have hes:qe6 st L=true:=by
    unfold qe6
    rw[Bool.and_eq_true,Bool.and_eq_true,List.all_eq_true]at h5
    rw[List.all_eq_true]
    intro j hj
    have:=h5.1.2 j hj
    rw[hm.bit]
    exact this
   have hSw:=hS hes
   have hfree:Region.free .any l.toArray L i=true:=j87 hm hi h4
   rw[Bool.and_eq_true,Bool.and_eq_true]at h5
   rw[hdst]at hK
   refine z12 d hio hdst hsel hfree (by simpa using hr) ?_ (fun c a w=>hQ c a d v w) hy' hSw.2 ?_
   ·rw[Bool.and_eq_true,Bool.and_eq_true,Bool.and_eq_true]
    exact⟨⟨⟨h5.1.1,hes⟩,h5.2⟩,j70 hc⟩
   ·exact je ht qs late _ (m ||| (1 <<< i)) _ w f (hm.set hlt) (qh1 hc hr) (by rw[qd7,Bool.and_eq_true];exact⟨rfl,h6⟩) (by rw[PTr.dep];omega) (fun _=>hSw) hK
include hQ hsel in
theorem jm0 {t:PTr} (ht:CTr P l S Q st t):∀qs:List Nat,CTr P l S Q st (.free qs t)
 | [],late,L,m,a,w,fuel,hm,hc,hB,hd,hS,h=>by
  rw[qd7,Bool.and_eq_true,zn9]at hB
  rw[PTr.dep,List.length_nil,Nat.zero_add]at hd
  exact ht late L m a w fuel hm hc hB.2 hd hS h
 | i ::qs,late,L,m,a,w,fuel,hm,hc,hB,hd,hS,h=>by
  rw[qd7,Bool.and_eq_true,zn9,qb5,Nat.zero_add]at hB
  have hB:=hB.2
  cases hi:l[i]? with
  | none=>rw[hi]at hB;cases hB
  | some o=>
   rw[hi,Option.map_some]at hB
   simp only[jb6]at hB
   rw[qo4,Bool.and_eq_true,Bool.and_eq_true,Bool.and_eq_true]at hB
   obtain⟨⟨⟨h1,h2⟩,h3⟩,hB⟩:=hB
   rw[Bool.and_eq_true,Bool.and_eq_true]at hB
   obtain⟨⟨h4,h5⟩,h6⟩:=hB
   have hlt:=(List.getElem?_eq_some_iff.1 hi).1
   have hr:i∈Region.ready .any l.toArray L:=(qc2 hm hi).2 ⟨by rw[qb3]at h2;simpa using h2,h3⟩
   have hgd:l.getD i default=o:=by rw[List.getD_eq_getElem?_getD,hi];rfl
   rw[Bool.and_eq_true]at h1
   obtain⟨d,hdst⟩:=Option.isSome_iff_exists.1 h1.2
   rw[PTr.dep,List.length_cons]at hd
   obtain⟨f,rfl⟩:∃f,fuel=f+1:=⟨fuel - 1,by omega⟩
   have hio:l.toArray[i]? =some o:=by simpa using hi
   have h0:wpQuiet P l.toArray (Cls fun _=>True) (fun a'=>ql8 P l S Q st late t a' w) (o ::qs.map (l.getD · default)) a:=by
    have:=h
    rw[ql8,List.map_cons,hgd]at this
    exact this
   have hq1:qOp P l.toArray (Cls fun _=>True) i (wpQuiet P l.toArray (Cls fun _=>True) (fun a'=>ql8 P l S Q st late t a' w) (qs.map (l.getD · default))) a:=by unfold qOp;rw[hio];exact h0
   obtain⟨v,hy,hK⟩:=yieldsIn_of_qOp hio hq1
   have hy':=qn1 h1.1 hy
   have hfree:Region.free .any l.toArray L i=true:=j87 hm hi h4
   rw[hdst]at hK
   have hist:i∉st:=fun hm=>by simp at h5;exact h5 hm
   refine zz7 d hio hdst hsel hfree (by simpa using hr) hist (fun c a w=>hQ c a d v w) hy' (fun he=>(hS he).2) ?_
   exact jm0 ht qs late _ (m ||| (1 <<< i)) _ w f (hm.set hlt) (qh1 hc hr) (by rw[qd7,Bool.and_eq_true];exact⟨rfl,h6⟩) (by rw[PTr.dep];omega) (fun he=>hS (qw2 (by rw[hm.size];exact hlt) he).2) hK
include hQ hsel in
theorem qy7:∀t:PTr,CTr P l S Q st t∧∀p∈t.alts,CTr P l S Q st p.2
 | .done=>by
  refine⟨fun late L m a w fuel hm hc hB hd hS h=> ?_,fun p hp=>by cases hp⟩
  rw[qd7,Bool.and_eq_true]at hB
  rw[ql8]at h
  refine js ?_ h fuel
  rw[List.eq_nil_iff_forall_not_mem]
  intro j hj
  obtain⟨_,o,ho,_⟩:=mem_ready.1 hj
  have ho':l[j]? =some o:=by simpa using ho
  have h1:=(qc2 hm ho').1 hj
  have:=ql5 _ hB.2 j _ _ _ _ _ _ (by rw[qb5,ho'];rfl) (by rw[Nat.zero_add,qb3,h1.1];rfl)
  rw[h1.2]at this
  cases this
 | .none=>by
  refine⟨fun late L m a w fuel hm hc hB hd hS h=> ?_,fun p hp=>by cases hp⟩
  rw[qd7,qo4,Bool.and_eq_true]at hB
  exact absurd hB.2 (by decide)
 | .quiet qs t=>⟨je hQ hsel (qy7 t).1 qs,fun p hp=>by cases hp⟩
 | .free qs t=>⟨jm0 hQ hsel (qy7 t).1 qs,fun p hp=>by cases hp⟩
 | .act i t r=>by
  have ha:∀p∈(PTr.act i t r).alts,CTr P l S Q st p.2:=fun p hp=>by
   rcases List.mem_cons.1 hp with rfl | hp
   ·exact(qy7 t).1
   ·exact(qy7 r).2 p hp
  refine⟨fun late L m a w fuel hm hc hB hd hS h=> ?_,ha⟩
  obtain⟨k1,k2⟩:=jg4 hm (.act i t r) 0 hB (fun _=>⟨i,t,r,rfl⟩)
  have hdp:∀(r:PTr) (p:Nat×PTr),p∈r.alts→p.2.dep+1≤r.dep:=by
   intro r
   induction r with
   | act i t r _ ih=>
    intro p hp
    rw[PTr.dep]
    rcases List.mem_cons.1 hp with rfl | hp
    ·exact Nat.le_max_left _ _
    ·exact Nat.le_trans (ih p hp) (Nat.le_max_right _ _)
   | _=>intro p hp;cases hp
  have h0:=hdp (.act i t r) (i,t) (List.mem_cons_self ..)
  obtain⟨f,rfl⟩:∃f,fuel=f+1:=⟨fuel - 1,by omega⟩
  refine⟨fun he=> ?_,fun j hj=> ?_⟩
  ·have:=(k1 (i,t) (List.mem_cons_self ..)).2.1
   rw[he]at this
   cases this
  ·rcases k2 j hj with hb | ⟨p,hp,rfl⟩
   ·rw[Nat.zero_testBit]at hb;cases hb
   ·obtain⟨g1,g2,g3⟩:=k1 p hp
    have hlt:p.1 < L.size:=by rw[hm.size];exact g1
    have h':=jh0 h p hp
    have hi:=qf7 g1
    have hnx:∀a2 w2,Ph S Q (!late && !st.contains p.1) (ql8 P l S Q st (late || st.contains p.1) p.2) .normal a2 w2→qy3 st S (L.setIfInBounds p.1 true) w2∧q91 P .any l.toArray Q st S f (L.setIfInBounds p.1 true) a2 w2:=fun a2 w2 hb=>by
     have hb:=hb.1 rfl
     have hs:qe6 st (L.setIfInBounds p.1 true)=true→(late || st.contains p.1)=false∧S w2:=fun he=>by
      obtain⟨e1,e2⟩:=qw2 hlt he
      have e3:=(hS e2).1
      rw[e1,e3]at hb ⊢
      exact⟨rfl,hb.1 rfl⟩
     exact⟨fun he=>(hs he).2,ha p hp _ _ _ a2 w2 f (hm.set g1) (qh1 hc g2) g3 (by have:=hdp _ p hp;omega) hs hb.2⟩
    unfold wpOp
    rw[hi]
    simp only
    unfold wpList at h'
    split
    ·rename_i hw
     rw[if_pos hw]at h'
     rcases h' with h' | h'
     ·exact .inl (jd2 (fun a2 w2 h2=>hnx a2 w2 h2) (fun x a2 w2 hx2 h2=>h2.2 hx2) h')
     ·obtain⟨g1,a2,w2,g2⟩:=h'
      exact .inr ⟨g1,a2,w2,g2.2 (by intro e;cases e)⟩
    ·rename_i hw
     rw[if_neg hw]at h'
     exact hnx _ _ h'
end
noncomputable def zr3 (l:List Oper) (st:List Nat) (t:PTr):Bool:=Region.noSelect l.toArray && decide (t.dep≤l.length) && zk2 l.toArray 0 l fun T=>qd7 l st T t 0 0
theorem qt4 {P:Program} {l:List Oper} {Q:Exit→Act→World→Prop} {id:Nat} {a:Act} {w:World} (S:World→Prop) (st:List Nat) (t:PTr) (hm:P.follows .mixedOrders=true)
  (hB:zr3 l st t=true) (hQ:∀c a (d:Tmp) v w,Q (.panic c) (a.put (some d) v) w→Q (.panic c) a w) (hS:S w.drew)
  (h:ql8 P l S Q st false t a w.drew):(Code.region id l.toArray true).wp P Q a w:=by
 unfold zr3 at hB;rw[jk8,Bool.and_eq_true,Bool.and_eq_true,decide_eq_true_eq]at hB;refine qj5 st S hm ((qy7 hQ hB.1.1 t).1 false _ 0 a _ _ ⟨by simp,fun i=> ?_⟩ (fun k hk=> ?_) hB.2 (by simpa using hB.1.2) (fun _=>⟨rfl,hS⟩) h)
 ·rw[Nat.zero_testBit,Array.getD_eq_getD_getElem?,Array.getElem?_replicate]
  split <;> rfl
 ·rw[Array.getD_eq_getD_getElem?,Array.getElem?_replicate]at hk
  split at hk <;> cases hk
theorem hem (p:Prop) [Decidable p]:Hid p∨Hid (¬p):=if h:p then .inl (q00 h)else .inr (q00 h)
theorem zu7 {a:Nat} (h:Hid (a≠0)):((a:Int) !=0)=true∧(a !=0)=true:=by have:=h.out;simp;omega
theorem z59 {a:Nat} (h:Hid (¬a≠0)):((a:Int) !=0)=false∧(a !=0)=false:=by have:=h.out;simp;omega
theorem zi1 {a:Nat} (h:Hid (0 < a)):decide ((0:Int) < a)=true∧decide (0 < a)=true:=by have:=h.out;simp;omega
theorem jv6 {a:Nat} (h:Hid (¬0 < a)):decide ((0:Int) < a)=false∧decide (0 < a)=false:=by have:=h.out;simp;omega
theorem z22 {a:Nat} (h:Hid (4611686018427387904≤a)):decide ((4611686018427387904:Int)≤a)=true∧decide (4611686018427387904≤a)=true:=by have:=h.out;simp;omega
theorem qw1 {a:Nat} (h:Hid (¬4611686018427387904≤a)):decide ((4611686018427387904:Int)≤a)=false∧decide (4611686018427387904≤a)=false:=by have:=h.out;simp;omega
theorem zw2 {a:Nat} (h:Hid (16384 < a)):decide ((16384:Int) < a)=true∧decide (16384 < a)=true:=by have:=h.out;simp;omega
theorem zs8 {a:Nat} (h:Hid (¬16384 < a)):decide ((16384:Int) < a)=false∧decide (16384 < a)=false:=by have:=h.out;simp;omega
theorem zx4 {a:Nat} (h:Hid (1≤a)):decide ((1:Int)≤a)=true∧decide (1≤a)=true:=by have:=h.out;simp;omega
theorem zx3 {a:Nat} (h:Hid (¬1≤a)):decide ((1:Int)≤a)=false∧decide (1≤a)=false:=by have:=h.out;simp;omega
theorem x02 {a b:Nat} (h:Hid (a≤b)):decide ((a:Int)≤b)=true∧decide (a≤b)=true:=by have:=h.out;simp;omega
theorem x01 {a b:Nat} (h:Hid (¬a≤b)):decide ((a:Int)≤b)=false∧decide (a≤b)=false:=by have:=h.out;simp;omega
theorem zy0 {a:Nat} (h:Hid (a≤20)):decide ((a:Int)≤20)=true∧decide (a≤20)=true:=by have:=h.out;simp;omega
theorem zy {a:Nat} (h:Hid (¬a≤20)):decide ((a:Int)≤20)=false∧decide (a≤20)=false:=by have:=h.out;simp;omega
theorem zz9 {a:Nat} (h:Hid (a=8)):((a:Int)==8)=true∧(a==8)=true:=by have:=h.out;simp;omega
theorem zz8 {a:Nat} (h:Hid (¬a=8)):((a:Int)==8)=false∧(a==8)=false:=by have:=h.out;simp;omega
theorem x04 {a:Nat} {V:Bool} (h:decide (0 < a)=V):decide ((0:Int) < a)=V∧decide (0 < a)=V:=by subst h;constructor <;> rw[Bool.eq_iff_iff] <;> simp <;> omega
theorem zw0 {a b:Nat} {V:Bool} (h:decide (a+b < 4611686018427387904)=V):decide ((a:Int)+b < 4611686018427387904)=V∧decide (a+b < 4611686018427387904)=V:=by subst h;constructor <;> rw[Bool.eq_iff_iff] <;> simp <;> omega
theorem zy1 {a:Nat} {V:Bool} (h:decide (a≤1152921504606846976)=V):decide ((a:Int)≤1152921504606846976)=V∧decide (a≤1152921504606846976)=V:=by subst h;constructor <;> rw[Bool.eq_iff_iff] <;> simp <;> omega
theorem x00 {a:Nat} {V:Bool} (h:decide (a=8)=V):((a:Int)==8)=V∧(a==8)=V:=by subst h;constructor <;> rw[Bool.eq_iff_iff] <;> simp <;> omega
theorem zw4 {a:Nat} {V:Bool} (h:decide (a=16)=V):((a:Int)==16)=V∧(a==16)=V:=by subst h;constructor <;> rw[Bool.eq_iff_iff] <;> simp <;> omega
theorem zx9 {a:Nat} {V:Bool} (h:decide (a≤16384)=V):decide ((a:Int)≤16384)=V∧decide (a≤16384)=V:=by subst h;constructor <;> rw[Bool.eq_iff_iff] <;> simp <;> omega
theorem x03 {a:Nat} {V:Bool} (h:decide (a < 4611686018427387904)=V):decide ((a:Int) < 4611686018427387904)=V∧decide (a < 4611686018427387904)=V:=by subst h;constructor <;> rw[Bool.eq_iff_iff] <;> simp <;> omega
end Go.Proofs.YtlfjhgamlkbofaaGreatDoor
