/- Words for memory that the walks of this family share: a slice that reads as a list of data, each datum some cells; strings as lists of bytes. No conditions. -/
import Derived.Test.YtekcpadlmfaihaaGreatVWd
import Derived.Test.YtekcpadlmfaihaaGreatRows
import Derived.WalkKit
import Derived.WalkSpells
import Derived.WalkLawsBesides
import Derived.Lib.Hide
import Derived.Lib.Strings
import Derived.Below
import Derived.Laws.OwnMore
import Derived.Deep.AppendLies
import Derived.Deep.Draws
import Derived.Deep.QuietTactic
import Derived.BigQuiet
import Derived.Laws.MakeOwn
import Derived.Maps.AppendAt
import Derived.Deep.RegionHeld3
import Derived.Deep.LoopGhost
import Derived.StillTailTactics
import Derived.IntWalk
import Derived.Laws.BitsAllLaws
import Derived.Laws.BytesArg
import Derived.Deep.RegionLaw
namespace Go.Proofs.YtekcpadlmfaihaaGreat
open Go.RowKit Proofs.Tryz
set_option maxHeartbeats 1000000
set_option linter.unusedSimpArgs false
set_option linter.unusedVariables false
variable {p:Addr} {F F' G:List Nat} {cs:List Value} {B B' C H base bytes c fV fW fm fq g gr gu hE hZ k mH mz n s:Nat} {o:Obj} {A fU fj gm hD mv:Option Addr} {P:Program} {α:Type} {e t:TypeId} {b f h i u:Value} {a w w':World}
abbrev Str:=List UInt8
abbrev sv (s:Str):Value:= .string ⟨s.toArray⟩
@[go_sem] theorem Z0 (s:List UInt8) (a b:Nat):(⟨s.toArray⟩:ByteArray).extract a b=⟨((s.drop a).take (b - a)).toArray⟩:=by rw[Lib.extract_eq]
@[go_sem] theorem ab9 (a b:List UInt8):(⟨a.toArray⟩:ByteArray)++⟨b.toArray⟩=⟨(a++b).toArray⟩:=ByteArray.mk_append_mk a b
@[go_sem] theorem afK (s:List UInt8) (i:Nat) (h:i<(⟨s.toArray⟩:ByteArray).size):(⟨s.toArray⟩:ByteArray)[i]=s[i]'h:=rfl
theorem eZ {k:IntKind} {a b:Int} (h:a=b):Ending.returned (.int k a)= .returned (.int k b):=by rw[h]
theorem dZ {a b:Bool} (h:a=b):Ending.returned (.bool a)= .returned (.bool b):=by rw[h]
theorem mK {a b:Str} (h:a=b):Ending.returned (sv a)= .returned (sv b):=by rw[h]
theorem pS (h:Below B a w) (n:Nat):Below B a (w.drewN n):=⟨h.os,h.tape,h.output,h.size,h.block⟩
theorem ij {b c:World} (h:Below a.heap.size a b) (k:Below b.heap.size b c):Below a.heap.size a c:=h.trans (k.mono h.size)
section
variable {α:Type} {enc:α->List Value} {s:Nat} {w w':World} {B B' n:Nat} {A:Option Addr} {l:List α}
def Reads (enc:α->List Value) (s:Nat) (w:World) (B:Nat) (A:Option Addr) (n:Nat) (l:List α):Prop:=
 l.length=n/\(0<n->∃b off,A=some ⟨b,off,none⟩/\b<B/\∀k x j u,l[k]?=some x->(enc x)[j]?=some u->w.cell? ⟨b,off+k*s+j,none⟩=some u)
theorem Reads.len (h:Reads enc s w B A n l):l.length=n:=h.1
theorem Reads.nil_:Reads enc s w B A 0 ([]:List α):=⟨rfl,λh=>absurd h dP⟩
theorem Reads.keep (h:Reads enc s w B A n l) (hk:∀p:Addr,p.block<B->w'.cell? p=w.cell? p):Reads enc s w' B A n l:=
 ⟨h.1,λhn=>by obtain⟨b,off,e,hb,hc⟩:=h.2 hn;exact⟨b,off,e,hb,λk x j u hx hu=>(hk _ hb).trans (hc k x j u hx hu)⟩⟩
theorem Reads.more (h:Reads enc s w B A n l) (hB:B<=B'):Reads enc s w B' A n l:=
 ⟨h.1,λhn=>by obtain⟨b,off,e,hb,hc⟩:=h.2 hn;exact⟨b,off,e,by omega,hc⟩⟩
theorem Reads.below (h:Reads enc s w B A n l) (hb:Below B w w'):Reads enc s w' B A n l:=h.keep λ_ hp=>hb.cell hp
theorem Reads.next (h:Reads enc s w w.heap.size A n l) (hb:Below w.heap.size w w'):Reads enc s w' w'.heap.size A n l:=(h.below hb).more hb.size
theorem Reads.at_ {k:Nat} (h:Reads enc s w B A n l) (hk:k<n):
 ∃b off x,A=some ⟨b,off,none⟩/\b<B/\l[k]?=some x/\∀j u,(enc x)[j]?=some u->w.cell? ⟨b,off+k*s+j,none⟩=some u:=by
 obtain⟨b,off,e,hb,hc⟩:=h.2 dP;have hl:k<l.length:=by rw[h.1];exact hk
 have hx:l[k]?=some l[k]:=aw hl;exact⟨b,off,l[k],e,hb,hx,λj u hu=>hc k _ j u hx hu⟩
end
def Blk (w:World) (g:Nat) (t:TypeId) (cs:List Value):Prop:=w.heap[g]?=some (.cells cs.toArray t (0,0))
section
variable {w w':World} {g:Nat} {t:TypeId} {cs:List Value}
theorem Blk.lt (h:Blk w g t cs):g<w.heap.size:=by
 rcases cP g w.heap.size with hlt|tU
 ·exact hlt
 ·unfold Blk at h;rw[cI tU]at h;cases h
theorem Blk.cell (h:Blk w g t cs) (i:Nat):w.cell? ⟨g,i,none⟩=cs[i]?:=by have:=cell_of_row w g i cs.toArray t (0,0) h;simpa using this
theorem Blk.frozen (h:Blk w g t cs) (i:Nat):w.frozen? ⟨g,i,none⟩=false:=by unfold Blk at h;simp [World.frozen?,h]
theorem Blk.set_ (h:Blk w g t cs) (i:Nat) (u:Value):Blk (w.setCell ⟨g,i,none⟩ u) g t (cs.set i u):=by unfold Blk at h ⊢;simp [World.setCell,Array.getElem?_modify,h]
theorem Blk.below {B:Nat} (h:Blk w g t cs) (hb:Below B w w') (hg:g<B):Blk w' g t cs:=(hb.block g hg).trans h
end
theorem KY {α:Type} {enc:α->List Value} {s:Nat} (hs:∀x,(enc x).length=s) (l:List α) (k j:Nat) (x:α) (u:Value) (h:l[k]?=some x) (hu:(enc x)[j]?=some u):(l.flatMap enc)[k*s+j]?=some u:=by
 induction l generalizing k with
 |nil=>simp at h
 |cons a t ih=>
  cases k with
  |zero=>
   simp at h;subst h;have hj:j<(enc a).length:=(ay.1 hu).1;simpa [cY hj]using hu
  |succ k=>
   simp at h;have e1:(k+1)*s+j=(enc a).length+(k*s+j):=by rw[hs,Nat.succ_mul];omega
   rw[cB,e1,cV dP,Nat.add_sub_cancel_left];exact ih k h
theorem gN {α:Type} {enc:α->List Value} {s:Nat} (hs:∀x,(enc x).length=s) (l:List α):(l.flatMap enc).length=l.length*s:=by
 induction l with
 |nil=>simp
 |cons a t ih=>rw[cB,aY,hs,ih,bU,Nat.succ_mul];omega
theorem Blk.reads {enc:α->List Value} (hs:∀x,(enc x).length=s) {l:List α} (h:Blk w g t (l.flatMap enc)) (hB:g<B):Reads enc s w B (some ⟨g,0,none⟩) l.length l:=
 ⟨rfl,λ_=>⟨g,0,rfl,hB,λk x j u hx hu=>by rw[h.cell,bI];exact KY hs l k j x u hx hu⟩⟩
theorem abU [BEq α] [LawfulBEq α] {a b:α} (h:(a==b)=true):a=b:=by simpa using h
theorem Ys [BEq α] [LawfulBEq α] {a b:α} (h:(a==b)=false):¬a=b:=by simpa using h
theorem eJ {l:List α} {x:α} (h:l[k]?=some x):l.take (k+1)=l.take k++[x]:=by obtain⟨hk,he⟩:=ay.1 h;rw[List.take_succ_eq_append_getElem hk,he]
theorem iw (t e:TypeId) (i:TypeInfo) (z:Value) (ht:P.underlying t=some (.slice e)) (hi:P.info? e=some i) (hz:i.zero=some z)
 (kl kc:IntKind) (n c:Nat) (Nh:n<=c) (ag9:i.bytes*c<=281474976710656) (h63:c<=9223372036854775807) (w:World):
 (Instr.makeSlice t (.int kl (n:Int)) (.int kc (c:Int))).run P w= .ok (.slice (some ⟨w.heap.size,0,none⟩) n c) (w.alloc (.cells (madeCells z.cells (c*i.size)) e)):=by
 have hb:(i.bytes:Int)*(c:Int)<=281474976710656:=by
  have h:((i.bytes*c:Nat):Int)<=281474976710656:=dP
  rwa [Int.natCast_mul]at h
 have hr:=run_make (P:=P) w t e i z ht hi hz kl kc n c dP dP hb dP;simp only[aU]at hr;exact hr
theorem Blk.new_ (w:World) (t:TypeId) (cs:Array Value):Blk (w.alloc (.cells cs t)) w.heap.size t cs.toList:=by unfold Blk;simpa using heap_alloc_new w (.cells cs t)
def Fil (w:World) (g:Nat) (t:TypeId) (N m:Nat) (xs:List Value):Prop:=∃cs,Blk w g t cs/\cs.length=N/\m<=N/\cs.take m=xs
section
variable {w w':World} {g:Nat} {t:TypeId} {N m:Nat} {xs:List Value}
theorem Fil.cell (h:Fil w g t N m xs) (i:Nat) (hi:i<N):∃u,w.cell? ⟨g,i,none⟩=some u:=by obtain⟨cs,hb,hl,_⟩:=h;exact⟨cs[i],by rw[hb.cell,aw]⟩
theorem Fil.frozen (h:Fil w g t N m xs) (i:Nat):w.frozen? ⟨g,i,none⟩=false:=by obtain⟨cs,hb,_⟩:=h;exact hb.frozen i
theorem Fil.lt (h:Fil w g t N m xs):g<w.heap.size:=by obtain⟨cs,h1,h2⟩:=h;exact h1.lt
theorem Fil.below {B:Nat} (h:Fil w g t N m xs) (hb:Below B w w') (hg:g<B):Fil w' g t N m xs:=by obtain⟨cs,h1,h2⟩:=h;exact⟨cs,h1.below hb hg,h2⟩
theorem Fil.next (h:Fil w g t N m xs) (hb:Below w.heap.size w w'):Fil w' g t N m xs:=h.below hb h.lt
theorem Fil.put (h:Fil w g t N m xs) (hm:m<N) (u:Value):Fil (w.setCell ⟨g,m,none⟩ u) g t N (m+1) (xs++[u]):=by obtain⟨cs,h1,h2,h3,h4⟩:=h;refine⟨_,h1.set_ _ _,by simp [h2],by omega,?_⟩;rw[List.take_succ_eq_append_getElem dS,List.take_set_of_le dP,h4];simp
theorem Fil.start (w:World) (t:TypeId) (cs:Array Value) (N:Nat) (h:cs.size=N):Fil (w.alloc (.cells cs t)) w.heap.size t N 0 []:=
 ⟨cs.toList,Blk.new_ w t cs,by simpa using h,by omega,by simp⟩
theorem Fil.zero (h:Fil w g t N m xs):Fil w g t N 0 []:=by obtain⟨cs,h1,h2,h3,h4⟩:=h;exact⟨cs,h1,h2,by omega,by simp⟩
end
structure ElemTy (P:Program) (t e:TypeId) (size bytes:Nat):Prop where
 ok:∃i z,P.underlying t=some (.slice e)/\P.info? e=some i/\i.zero=some z/\i.size=size/\i.bytes=bytes/\z.cells.size=size/\0<size
def Own {α:Type} (enc:α->List Value) (s:Nat) (e:TypeId) (w:World) (base:Nat) (A:Option Addr) (n c:Nat) (l:List α):Prop:=
 l.length=n/\w.ownsRow base e s (.slice A n c) n (l.flatMap enc)
section
variable {α:Type} {enc:α->List Value} {s:Nat} {e:TypeId} {w w':World} {base n c:Nat} {A:Option Addr} {l:List α}
theorem Own.len (h:Own enc s e w base A n c l):l.length=n:=h.1
theorem Own.cap (h:Own enc s e w base A n c l):n<=c:=by
 rcases h.2.2 with ⟨h0,h1⟩|⟨g,cap,pq,h0,_,_,h1,_⟩
 ·omega
 ·injection h0 with _ _ h0;omega
theorem Own.lt {b:Addr} (h:Own enc s e w base (some b) n c l):base<=b.block/\b.block<w.heap.size:=h.2.lt b.block rfl
theorem Own.plain {b:Addr} (h:Own enc s e w base (some b) n c l):b=⟨b.block,0,none⟩:=by
 rcases h.2.2 with ⟨h0,h1⟩|⟨g,cap,pq,h0,_,_,h1,_⟩
 ·cases h0
 ·injection h0 with h0;injection h0 with h0;subst h0;rfl
theorem Own.reads (mB:∀x,(enc x).length=s) (h:Own enc s e w base A n c l):Reads enc s w w.heap.size A n l:=by
 refine⟨h.1,λhn=>?_⟩;rcases h.2.2 with ⟨h0,h1⟩|⟨g,cap,pq,h0,hg,hh,hc,_,_,hx⟩
 ·omega
 ·injection h0 with h0;subst h0
  refine⟨g,0,rfl,h.lt.2,λk x j u hk hu=>?_⟩;have:=h.2.cells (g:=g) rfl _ _ (KY mB l k j x u hk hu);rw[show (⟨g,0,none⟩:Addr).add (k*s+j)=⟨g,0+k*s+j,none⟩ from by unfold Addr.add;split<;>simp_all]at this;exact this
theorem Own.kept {row:Option Nat} (h:Own enc s e w base A n c l) (hg:w.grownBy w' row) (jC:A=none\/(Value.slice A n c).ownBlock≠row):Own enc s e w' base A n c l:=
 ⟨h.1,h.2.kept hg (by rcases jC with rfl|jC;exact .inl rfl;exact .inr jC)⟩
theorem Own.below (h:Own enc s e w base A n c l) (hb:Below w.heap.size w w'):Own enc s e w' base A n c l:=by
 refine h.kept (row:=none) ⟨hb.os,hb.tape,hb.output,hb.size,λk hk _=>hb.block k hk⟩ ?_;cases A with
 |none=>exact .inl rfl
 |some b=>exact .inr (by simp [Value.ownBlock])
theorem Own.alloc (h:Own enc s e w base A n c l) (o:Obj):Own enc s e (w.alloc o) base A n c l:=⟨h.1,h.2.alloc o⟩
theorem Own.mono {base':Nat} (h:Own enc s e w base A n c l) (hb:base'<=base):Own enc s e w base' A n c l:=by
 refine⟨h.1,h.2.1,?_⟩;rcases h.2.2 with h0|⟨g,cap,pq,h0,hg,hr⟩
 ·exact .inl h0
 ·exact .inr ⟨g,cap,pq,h0,by omega,hr⟩
theorem Own.nil_:Own enc s e w base none 0 0 ([]:List α):=⟨rfl,World.ownsRow_nil w base e s⟩
theorem Own.take (mB:∀x,(enc x).length=s) (h:Own enc s e w base A n c l) {k:Nat} (hk:k<=n) (hA:A≠none):Own enc s e w base A k c (l.take k):=by
 have hl:(l.take k).length=k:=by have:=h.1;simp;omega
 refine⟨hl,by rw[gN mB,hl],?_⟩;rcases h.2.2 with ⟨h0,h1⟩|⟨g,cap,pq,h0,hg,hh,hc,hm,hz,hx⟩
 ·injection h0 with h0;exact absurd h0 hA
 ·injection h0 with h0 _ h3;subst h0 h3
  refine .inr ⟨g,c,pq,rfl,hg,hh,by omega,hm,hz,?_⟩;have h2:pq.toList.take (k*s)=(pq.toList.take (n*s)).take (k*s):=by rw[List.take_take,Nat.min_eq_left (dd _ hk)]
  rw[h2,hx];have h4:l.flatMap enc=(l.take k).flatMap enc++(l.drop k).flatMap enc:=by rw[<-cj,cA]
  rw[h4,List.take_append_of_le_length (by rw[gN mB,hl];omega),aC (by rw[gN mB,hl];omega)]
theorem Own.new_ (mB:∀x,(enc x).length=s) (w:World) (l:List α) (cs:Array Value) {g:Nat} (hc:cs.toList=l.flatMap enc) (hn:l.length=n) (hm:n<=maxLen) (hb:base<=w.heap.size) (hg:w.heap.size=g):
 Own enc s e (w.alloc (.cells cs e)) base (some ⟨g,0,none⟩) n n l:=by
 subst hg;have hz:cs.size=n*s:=by rw[<-Array.length_toList,hc,gN mB,hn]
 exact⟨hn,by rw[gN mB,hn],.inr ⟨w.heap.size,n,cs,rfl,hb,heap_alloc_new w _,af _,hm,hz,by rw[hc,aC (by rw[gN mB,hn];omega)]⟩⟩
theorem Fil.own (mB:∀x,(enc x).length=s) {g:Nat} (h:Fil w g e (c*s) (n*s) (l.flatMap enc)) (hn:l.length=n) (Nh:n<=c) (hm:c<=maxLen) (hb:base<=g):Own enc s e w base (some ⟨g,0,none⟩) n c l:=by obtain⟨cs,h1,h2,h3,h4⟩:=h;exact⟨hn,by rw[gN mB,hn],.inr ⟨g,c,cs.toArray,rfl,hb,h1,Nh,hm,by simpa using h2,by simpa using h4⟩⟩
theorem Own.fil {g:Nat} (h:Own enc s e w base (some ⟨g,0,none⟩) n c l):Fil w g e (c*s) 0 []/\c<=maxLen:=by
 rcases h.2.2 with ⟨h0,h1⟩|⟨g',cap,pq,h0,hg,hh,hc,hm,hz,hx⟩
 ·cases h0
 ·injection h0 with h0 _ h3;injection h0 with h0;injection h0 with h0;subst h0 h3
  exact⟨⟨pq.toList,by unfold Blk;simpa using hh,by simpa using hz,by omega,by simp⟩,hm⟩
theorem Own.cases (h:Own enc s e w base A n c l):(A=none/\n=0/\c=0/\l=[])\/∃g,A=some ⟨g,0,none⟩:=by
 rcases h.2.2 with ⟨h0,h1⟩|⟨g',cap,pq,h0,_⟩
 ·injection h0 with h0 h2 h3;have:=h.1;exact .inl ⟨h0,h1,h3,aR.1 dP⟩
 ·injection h0 with h0;exact .inr ⟨g',h0⟩
end
theorem A8 (w:World) (row:Option Nat):w.grownBy w row:=⟨rfl,rfl,rfl,af _,λ_ _ _=>rfl⟩
theorem PT {row:Option Nat} (h:a.grownBy w row) (hb:Below w.heap.size w w'):a.grownBy w' row:=
 ⟨hb.os.trans h.os,hb.tape.trans h.tape,hb.output.trans h.output,du h.size hb.size,λi hi hn=>(hb.block i (db hi h.size)).trans (h.block i hi hn)⟩
theorem Vs {b c:World} {row:Option Nat} (h:a.grownBy b row) (k:Below a.heap.size b c):a.grownBy c row:=
 ⟨k.os.trans h.os,k.tape.trans h.tape,k.output.trans h.output,du h.size k.size,λi hi hn=>(k.block i hi).trans (h.block i hi hn)⟩
theorem SQ {row:Option Nat} (h:a.grownBy w row):a.grownBy w.drew row:=⟨h.os,h.tape,h.output,h.size,h.block⟩
theorem Lw (h:a.grownBy w (some g)) (hp:p.block=g\/a.heap.size<=p.block) (u:Value):a.grownBy (w.setCell p u) (some g):=
 ⟨h.os,h.tape,h.output,by simpa [World.setCell]using h.size,λi hi jC=>(Below.heap_setCell w p u i (by
  rintro rfl;rcases hp with hp|hp
  ·exact jC (by rw[hp])
  ·omega)).trans (h.block i hi jC)⟩
theorem v_ (enc:α->List Value){size:Nat} (hT:ElemTy P t e size bytes) (mB:∀x,(enc x).length=size) (hone:∀x,∀u∈enc x,u.oneCell'=true)
 {ops:Array Oper} {rest:List Oper} {o:Oper} {a:Act} {Q:Exit->Act->World->Prop} {w:World} (zK:o.guard=none) (sl x:Operand)
 (ho:o.op= .call {callee:= .builtin .append,args:=#[sl,x],argTypes:=#[t,t]})
 (base:Nat) (A:Option Addr) (n c:Nat) (l:List α) (hs:a.eval sl= .slice A n c) (mC:Own enc size e w base A n c l)
 (y:α) (b off m:Nat) (hx:a.eval x= .slice (some ⟨b,off,none⟩) 1 m) (adY:∀j u,(enc y)[j]?=some u->w.cell? ⟨b,off+j,none⟩=some u)
 (h63:(n+1)*bytes<=140737488355328) (hn:n+1<=maxLen) (DC:base<=w.heap.size)
 (h:∀g c' w',Own enc size e w' base (some ⟨g,0,none⟩) (n+1) c' (l++[y])->w.grownBy w' (Value.slice A n c).ownBlock->Below base w w'->((Value.slice A n c).ownBlock=some g\/g=w.heap.size)->
  wpList P ops Q rest (a.put o.dst (.slice (some ⟨g,0,none⟩) (n+1) c')) w'):wpList P ops Q (o::rest) a w:=by
 obtain⟨i,z,ht,hi,hz,h1,h2,h3,h4⟩:=hT.ok;refine wpList_append_own_at w zK sl x t ho base e i z size bytes ht hi hz h1 h2 h3 h4 _ n _ hs mC.2 ⟨b,off,none⟩ 1 m (enc y) hx (by rw[mB,Nat.one_mul]) (λj u hu=>?_) (hone y) hn h63 DC ?_
 ·have:=adY j u hu;unfold Addr.add;split
  ·simp_all
  ·exact this
 ·intro v' w' h5 h6 h7 h8;have hlt:=mC.2.lt;rcases h5.2 with ⟨h9,h10⟩|⟨g,cap,pq,h9,h10⟩
  ·omega
  ·subst h9;refine h g cap w' ⟨by simp [mC.1],?_⟩ h6 ?_ ?_
   ·rw[cj];simpa using h5
   ·exact(Below.refl _ _).grown h6 DC (λk hk=>(hlt k hk).1)
   ·rcases h8 with h8|h8
    ·left;rw[<-h8];rfl
    ·right;simp [Value.ownBlock]at h8;exact h8
theorem Own.apart {α:Type} {enc:α->List Value} {s:Nat} {e:TypeId} {w:World} {base n c:Nat} {A:Option Addr} {l:List α} (h:Own enc s e w base A n c l) {g:Nat} (hg:g<base\/w.heap.size<=g):A=none\/(Value.slice A n c).ownBlock≠some g:=by
 cases A with
 |none=>exact .inl rfl
 |some b=>
  have:=h.lt;refine .inr ?_;simp only[Value.ownBlock];intro e;injection e with e;omega
theorem Own.row {enc:α->List Value} {l:List α} (h:Own enc s e w base A n c l):∀g,(Value.slice A n c).ownBlock=some g->base<=g/\g<w.heap.size:=h.2.lt
theorem abi (x:Int):0<=bits .and .i64 x 255/\bits .and .i64 x 255<=255:=by
 have h:(BitVec.ofInt 64 x&&& BitVec.ofInt 64 255).toNat<=255:=by rw[BitVec.toNat_and];have:(BitVec.ofInt 64 255).toNat=255:=dQ;rw[this];exact Nat.and_le_right
 show 0<=IntKind.i64.wrap ((BitVec.ofInt 64 x&&& BitVec.ofInt 64 255).toNat:Int)/\IntKind.i64.wrap ((BitVec.ofInt 64 x&&& BitVec.ofInt 64 255).toNat:Int)<=255;generalize (BitVec.ofInt 64 x&&& BitVec.ofInt 64 255).toNat=m at h;rw[bK];omega
theorem abu {row:Option Nat} (h:a.grownBy w row) (n:Nat):a.grownBy (w.drewN n) row:=⟨h.os,h.tape,h.output,h.size,h.block⟩
def zq (b:UInt8):List Value:=[.int .u8 b.toNat]
def Cur (w:World) (g:Nat):Prop:=∃(A:Option Addr) (n c:Nat) (bs:List UInt8) (i h:Int) (B:Nat),Blk w g 122 [.slice A n c,i,h]/\B<=g/\Reads zq 1 w B A n bs/\0<=i/\i<=n/\n<=9223372036854775806
def Drawn (w:World) (g:Nat) (w':World):Prop:=Cur w' g/\w.grownBy w' (some g)
theorem Reads.atB {l:List UInt8} (h:Reads zq 1 w B A n l) (hk:k<n):
 ∃b off,∃x:UInt8,A=some ⟨b,off,none⟩/\b<B/\w.cell? ⟨b,off+k,none⟩=some (.int .u8 x.toNat):=by
 obtain⟨b,off,x,e,hb,hx,hc⟩:=h.at_ hk;have:=hc 0 _ rfl;rw[cu]at this;exact⟨b,off,x,e,hb,this⟩
theorem Drawn.lt {w w':World} {g:Nat} (h:Drawn w g w'):g<w'.heap.size:=by obtain⟨⟨A,n,c,bs,i,hh,B,hk,_⟩,_⟩:=h;exact hk.lt
theorem Drawn.trans {w w1 w2:World} {g:Nat} (h:Drawn w g w1) (k:Drawn w1 g w2):Drawn w g w2:=
 ⟨k.1,⟨k.2.os.trans h.2.os,k.2.tape.trans h.2.tape,k.2.output.trans h.2.output,du h.2.size k.2.size,λi hi hn=>(k.2.block i (db hi h.2.size) hn).trans (h.2.block i hi hn)⟩⟩
theorem Cur.lt {w:World} {g:Nat} (h:Cur w g):g<w.heap.size:=by obtain⟨A,n,c,bs,i,hh,B,hk,_⟩:=h;exact hk.lt
theorem Cur.below {w w':World} {g:Nat} (h:Cur w g) (hb:Below w.heap.size w w'):Cur w' g:=by obtain⟨A,n,c,bs,i,hh,B,hk,hB,hr,h4⟩:=h;exact⟨A,n,c,bs,i,hh,B,hk.below hb hk.lt,hB,hr.below (hb.mono (by have:=hk.lt;omega)),h4⟩
theorem Drawn.below {w w1 w2:World} {g:Nat} (h:Drawn w g w1) (hb:Below w1.heap.size w1 w2):Drawn w g w2:=⟨h.1.below hb,PT h.2 hb⟩
theorem Cur.own (h:Cur w g) (hb:Below B w w') (hg:g<B):Cur w' g:=by obtain⟨A,n,c,bs,i,hh,B',hk,hB,hr,h4⟩:=h;exact⟨A,n,c,bs,i,hh,B',hk.below hb hg,hB,hr.below (hb.mono dP),h4⟩
theorem Drawn.own {w w1 w2:World} {g:Nat} (h:Drawn w g w1) (hb:Below w.heap.size w1 w2) (hg:g<w.heap.size):Drawn w g w2:=⟨h.1.own hb hg,Vs h.2 hb⟩
theorem Drawn.refl (h:Cur w g):Drawn w g w:=⟨h,A8 _ _⟩
theorem Own.drawn {enc:α->List Value} {l:List α} (h:Own enc s e w base A n c l) (hd:Drawn w g w') (hg:g<base):Own enc s e w' base A n c l:=
 h.kept hd.2 (h.apart (.inl hg))
def encS (s:Str):List Value:=[sv s]
def mR (i:Int):List Value:=[.int .i64 i]
theorem gW (s:Str):(encS s).length=1:=rfl
theorem iu (s:Int):(mR s).length=1:=rfl
theorem iK (e:Str):∀u∈encS e,u.oneCell'=true:=by simp [encS,Value.oneCell']
theorem sP (e:Int):∀u∈mR e,u.oneCell'=true:=by simp [mR,Value.oneCell']
theorem Reads.atS {l:List Str} (h:Reads encS 1 w B A n l) (hk:k<n):
 ∃b off,∃x:Str,A=some ⟨b,off,none⟩/\b<B/\l[k]?=some x/\w.cell? ⟨b,off+k,none⟩=some (sv x):=by
 obtain⟨b,off,x,e,hb,hx,hc⟩:=h.at_ hk;have:=hc 0 _ rfl;rw[cu]at this;exact⟨b,off,x,e,hb,hx,this⟩
theorem Reads.atI {l:List Int} (h:Reads mR 1 w B A n l) (hk:k<n):
 ∃b off,∃x:Int,A=some ⟨b,off,none⟩/\b<B/\l[k]?=some x/\w.cell? ⟨b,off+k,none⟩=some (.int .i64 x):=by
 obtain⟨b,off,x,e,hb,hx,hc⟩:=h.at_ hk;have:=hc 0 _ rfl;rw[cu]at this;exact⟨b,off,x,e,hb,hx,this⟩
theorem Reads.drawn {enc:α->List Value} {l:List α} (h:Reads enc s w w.heap.size A n l) (hd:Drawn w g w') (jC:∀b off,A=some ⟨b,off,none⟩->b≠g):Reads enc s w' w'.heap.size A n l:=E0
theorem Uh {α:Type} {enc:α->List Value} {s:Nat} (hs:∀x,(enc x).length=s) (l:List α) (k j:Nat) (x x':α) (u:Value) (h:l[k]?=some x) (hj:j<s) (he:enc x'=(enc x).set j u):(l.flatMap enc).set (k*s+j) u=(l.set k x').flatMap enc:=by
 induction l generalizing k with
 |nil=>simp at h
 |cons a t ih=>
  cases k with
  |zero=>
   simp at h;subst h;rw[cB,a_,cB,he,dx,bI,List.set_append_left _ _ (by rw[hs];exact hj)]
  |succ k=>
   simp at h;have e1:(k+1)*s+j=(enc a).length+(k*s+j):=by rw[hs,Nat.succ_mul];omega
   rw[cB,be,cB,e1,dI _ _ dP,Nat.add_sub_cancel_left,ih k h]
theorem Own.set_ {enc:α->List Value} (hs:∀x,(enc x).length=s) {l:List α} (h:Own enc s e w base (some ⟨g,0,none⟩) n c l) (k j:Nat) (x x':α) (u:Value) (hx:l[k]?=some x) (hj:j<s) (he:enc x'=(enc x).set j u):
 Own enc s e (w.setCell ⟨g,k*s+j,none⟩ u) base (some ⟨g,0,none⟩) n c (l.set k x'):=by
 have hk:k<l.length:=(ay.1 hx).1;refine⟨by simpa using h.1,by rw[gN hs];simp [h.1],?_⟩;rcases h.2.2 with ⟨h0,h1⟩|⟨g',cap,pq,h0,hg,hh,hc,hm,hz,ht⟩
 ·cases h0
 ·injection h0 with h0 _ h3;injection h0 with h0;injection h0 with h0;subst h0 h3
  refine .inr ⟨g,c,pq.setIfInBounds (k*s+j) u,rfl,hg,?_,hc,hm,by simpa using hz,?_⟩
  ·simp [World.setCell,Array.getElem?_modify,hh]
  ·have hlt:k*s+j<n*s:=by have h4:=h.1;have h5:k+1<=n:=dP;have h6:=dd s h5;rw[Nat.succ_mul]at h6;omega
   rw[Array.toList_setIfInBounds,List.take_set,ht,Uh hs l k j x x' u hx hj he]
theorem fY {W w1:World} (hb:Below W.heap.size W w1):(∀b o,b<W.heap.size->w1.cell? ⟨b,o,none⟩=W.cell? ⟨b,o,none⟩)/\(∀b o,b<W.heap.size->w1.frozen? ⟨b,o,none⟩=W.frozen? ⟨b,o,none⟩):=
 ⟨λb o h=>hb.cell (p:=⟨b,o,none⟩) h,λb o h=>hb.frozen (p:=⟨b,o,none⟩) h⟩
theorem dT (w:World) (o:Obj):(w.alloc o).heap.size=w.heap.size+1:=dR
theorem dX (w:World) (p:Addr) (u:Value):(w.setCell p u).heap.size=w.heap.size:=by simp [World.setCell]
theorem Own.poke {enc:α->List Value} {l:List α} (h:Own enc s e w base A n c l) (hp:p.block<base) (u:Value):Own enc s e (w.setCell p u) base A n c l:=
 h.kept (Lw (A8 _ _) (.inl rfl) u) (h.apart (.inl hp))
theorem Blk.next (h:Blk w g t cs) (hb:Below w.heap.size w w'):Blk w' g t cs:=h.below hb h.lt
theorem Blk.c4 {a c d:Value} (h:Blk w g t [a,b,c,d]):w.cell? ⟨g,0,none⟩=some a/\w.cell? ⟨g,1,none⟩=some b/\w.cell? ⟨g,2,none⟩=some c/\w.cell? ⟨g,3,none⟩=some d:=⟨h.cell 0,h.cell 1,h.cell 2,h.cell 3⟩
abbrev Row (s:Nat):={cs:List Value//cs.length=s}
abbrev Row.v {s:Nat} (r:Row s):List Value:=r.val
theorem Row.len (r:Row s):r.v.length=s:=r.property
inductive D where
 |i (k:IntKind) (n:Int)
 |b (x:Bool)
 |s (x:Str)
 |st (fs:List D)
 |sl (xs:List D)
mutual
def rep (w:World) (B:Nat):D->List Value->Prop
 | .i k n,cs=>cs=[.int k n]/\(Lit.int k n).wf=true
 | .b x,cs=>cs=[.bool x]
 | .s x,cs=>cs=[sv x]/\x.length<=maxLen
 | .st fs,cs=>∃css,cs=css.flatten/\gb w B fs css
 | .sl xs,cs=>∃(A:Option Addr) (n c s:Nat) (fB:List (Row s)),cs=[.slice A n c]/\n<=c/\c<=maxLen/\Reads Row.v s w B A n fB/\gb w B xs (fB.map Row.v)
def gb (w:World) (B:Nat):List D->List (List Value)->Prop
 |[],css=>css=[]
 |x::t,css=>∃c1 c2,css=c1::c2/\rep w B x c1/\gb w B t c2
end
mutual
theorem tf {w w':World} {B B':Nat} (hB:B<=B') (hk:∀p:Addr,p.block<B->w'.cell? p=w.cell? p):∀(d:D) (cs:List Value),rep w B d cs->rep w' B' d cs
 | .i _ _,_,h=>by rw[rep]at h ⊢;exact h
 | .b _,_,h=>by rw[rep]at h ⊢;exact h
 | .s _,_,h=>by rw[rep]at h ⊢;exact h
 | .st fs,_,h=>by rw[rep]at h ⊢;obtain⟨css,h1,h2⟩:=h;exact⟨css,h1,Bb hB hk fs css h2⟩
 | .sl xs,_,h=>by rw[rep]at h ⊢;obtain⟨A,n,c,s,fB,h1,h2,h3,h4,h5⟩:=h;exact⟨A,n,c,s,fB,h1,h2,h3,(h4.keep hk).more hB,Bb hB hk xs _ h5⟩
theorem Bb {w w':World} {B B':Nat} (hB:B<=B') (hk:∀p:Addr,p.block<B->w'.cell? p=w.cell? p):∀(l:List D) (css:List (List Value)),gb w B l css->gb w' B' l css
 |[],_,h=>by rw[gb]at h ⊢;exact h
 |x::t,_,h=>by rw[gb]at h ⊢;obtain⟨c1,c2,h1,h2,h3⟩:=h;exact⟨c1,c2,h1,tf hB hk x c1 h2,Bb hB hk t c2 h3⟩
end
theorem fF {d:D} (h:rep w B d cs) (hb:Below B w w'):rep w' B d cs:=tf (af _) (λ_ hp=>hb.cell hp) d cs h
theorem gY {d:D} (h:rep w B d cs) (hB:B<=B'):rep w B' d cs:=tf hB (λ_ _=>rfl) d cs h
theorem fM {d:D} (h:rep w w.heap.size d cs) (hb:Below w.heap.size w w'):rep w' w'.heap.size d cs:=gY (fF h hb) hb.size
theorem fb {d:D} (h:rep w B d cs) (hb:Below B w w') (hB:B<=w'.heap.size):rep w' w'.heap.size d cs:=gY (fF h hb) hB
theorem vP {d:D} (h:rep w B d cs):rep w.drew B d cs:=tf (w:=w) (af _) (λp _=>by rfl) d cs h
theorem vO {w:World} {B:Nat}:∀{l:List D} {css:List (List Value)},gb w B l css->l.length=css.length
 |[],_,h=>by rw[gb]at h;rw[h];rfl
 |x::t,_,h=>by rw[gb]at h;obtain⟨c1,c2,rfl,_,h3⟩:=h;simp [vO h3]
theorem CI {w:World} {B:Nat}:∀{l:List D} {css:List (List Value)} {k:Nat} {d:D} {cs:List Value},gb w B l css->l[k]?=some d->css[k]?=some cs->rep w B d cs
 |[],_,_,_,_,_,h',_=>by simp at h'
 |x::t,_,k,d,cs,h,h',h''=>by
  rw[gb]at h;obtain⟨c1,c2,rfl,h2,h3⟩:=h;cases k with
  |zero=>simp at h' h'';subst h' h'';exact h2
  |succ k=>simp at h' h'';exact CI h3 h' h''
theorem LA {w:World} {B:Nat}:∀{l:List D} {css:List (List Value)},l.length=css.length->(∀(k:Nat) d cs,l[k]?=some d->css[k]?=some cs->rep w B d cs)->gb w B l css
 |[],css,hl,_=>by rw[gb];exact aR.1 hl.symm
 |x::t,css,hl,h=>by
  cases css with
  |nil=>simp at hl
  |cons c1 c2=>rw[gb];exact⟨c1,c2,rfl,h 0 x c1 rfl rfl,LA (by simpa using hl) (λk d cs h1 h2=>h (k+1) d cs h1 h2)⟩
theorem EP {f:α->D} {enc:α->List Value} {ok:α->Prop} (hf:∀x cs,rep w B (f x) cs↔cs=enc x/\ok x) (mB:∀x,(enc x).length=s) (l:List α) (cs:List Value):
 rep w B (.sl (l.map f)) cs↔∃(A:Option Addr) (n c:Nat),cs=[.slice A n c]/\n<=c/\c<=maxLen/\Reads enc s w B A n l/\∀x∈l,ok x:=by
 rw[rep];constructor
 ·rintro⟨A,n,c,s',fB,h1,h2,h3,h4,h5⟩;have hl:=vO h5;simp only[au]at hl;have hat:∀(k:Nat) (x:α) (r:Row s'),l[k]?=some x->fB[k]?=some r->r.v=enc x/\ok x:=λk x r hx hr=>(hf x _).1 (CI h5 (k:=k) iF (by simp [hr]));refine⟨A,n,c,h1,h2,h3,⟨by rw[hl];exact h4.len,λhn=>?_⟩,λx hx=>?_⟩
  ·obtain⟨b,off,e,hb,hc⟩:=h4.2 hn;refine⟨b,off,e,hb,λk x j u hx hu=>?_⟩;have hk:k<fB.length:=by rw[<-hl];exact(ay.1 hx).1
   have hr:fB[k]?=some fB[k]:=aw hk;have h6:=(hat k x _ hx hr).1;have hs:s'=s:=by rw[<-mB x,<-h6];exact(Row.len _).symm
   have:=hc k _ j u hr (by rw[h6];exact hu);rw[hs]at this;exact this
  ·obtain⟨k,hk,rfl⟩:=List.getElem_of_mem hx;exact(hat k _ (fB[k]' dP) (aw hk) (aw _)).2
 ·rintro⟨A,n,c,h1,h2,h3,h4,h5⟩;refine⟨A,n,c,s,l.map (λx=>⟨enc x,mB x⟩),h1,h2,h3,⟨by simpa using h4.len,λhn=>?_⟩,LA dR λk d cs hd hc=>?_⟩
  ·obtain⟨b,off,e,hb,hc⟩:=h4.2 hn;refine⟨b,off,e,hb,λk x j u hx hu=>?_⟩;rw[cg]at hx;cases hk:l[k]? with
   |none=>simp [hk]at hx
   |some y=>simp [hk]at hx;subst hx;exact hc k y j u hk hu
  ·simp only[List.map_map,cg]at hd hc;cases hk:l[k]? with
   |none=>simp [hk]at hd
   |some y=>
    simp [hk]at hd hc;subst hd hc;exact(hf y _).2 ⟨rfl,h5 y (aA hk)⟩
theorem jW {d:D} {t:List D} {c:List Value} {u:List (List Value)}:gb w B (d::t) (c::u)↔rep w B d c/\gb w B t u:=by
 constructor
 ·intro h;rw[gb]at h;obtain⟨c1,c2,he,h1,h2⟩:=h;injection he with he1 he2;subst he1 he2;exact⟨h1,h2⟩
 ·rintro⟨h1,h2⟩;rw[gb];exact⟨c,u,rfl,h1,h2⟩
theorem EO:gb w B [] []:=by rw[gb]
def oz (A:Option Addr):List Nat:=match A with
 |none=>[]
 |some a=>[a.block]
mutual
def own (P:Program) (w:World):D->TypeId->List Nat->List Value->Prop
 | .i k n,_,F,cs=>F=[]/\cs=[.int k n]/\(Lit.int k n).wf=true
 | .b x,_,F,cs=>F=[]/\cs=[.bool x]
 | .s x,_,F,cs=>F=[]/\cs=[sv x]/\x.length<=maxLen
 | .st fs,t,F,cs=>∃(KW:Array Field) (css:List (List Value)),P.underlying t=some (.struct KW)/\cs=css.flatten/\iB P w fs (KW.toList.map Field.type) F css
 | .sl xs,t,F,cs=>∃(e:TypeId) (A:Option Addr) (n c s:Nat) (fB:List (Row s)) (F2:List Nat),P.underlying t=some (.slice e)/\P.cellsOf e=s/\cs=[.slice A n c]/\c<=maxLen/\Own Row.v s e w 0 A n c fB/\F=oz A++F2/\iv P w xs e F2 (fB.map Row.v)
def iB (P:Program) (w:World):List D->List TypeId->List Nat->List (List Value)->Prop
 |[],ts,F,css=>ts=[]/\F=[]/\css=[]
 |x::t,ts,F,css=>∃t1 t2 F1 F2 c1 c2,ts=t1::t2/\F=F1++F2/\css=c1::c2/\own P w x t1 F1 c1/\iB P w t t2 F2 c2
def iv (P:Program) (w:World):List D->TypeId->List Nat->List (List Value)->Prop
 |[],_,F,css=>F=[]/\css=[]
 |x::t,e,F,css=>∃F1 F2 c1 c2,F=F1++F2/\css=c1::c2/\own P w x e F1 c1/\iv P w t e F2 c2
end
section
variable {P:Program} {w w':World}
theorem Own.same {α:Type} {enc:α->List Value} {s:Nat} {e:TypeId} {base n c:Nat} {A:Option Addr} {l:List α} (h:Own enc s e w base A n c l) (hk:∀g∈oz A,w'.heap[g]?=w.heap[g]?):Own enc s e w' base A n c l:=by
 refine⟨h.1,h.2.1,?_⟩;rcases h.2.2 with h0|⟨g,cap,pq,h0,hg,hh,hr⟩
 ·exact .inl h0
 ·refine .inr ⟨g,cap,pq,h0,hg,?_,hr⟩;injection h0 with h0;subst h0;rw[hk g (by simp [oz])];exact hh
theorem Own.lt' {α:Type} {enc:α->List Value} {s:Nat} {e:TypeId} {base n c:Nat} {A:Option Addr} {l:List α} (h:Own enc s e w base A n c l):∀g∈oz A,base<=g/\g<w.heap.size:=by
 intro g hg;cases A with
 |none=>simp [oz]at hg
 |some a=>simp [oz]at hg;subst hg;exact h.lt
mutual
theorem nJ:∀(d:D) (t:TypeId) (F:List Nat) (cs:List Value),(∀g∈F,w'.heap[g]?=w.heap[g]?)->own P w d t F cs->own P w' d t F cs
 | .i _ _,_,_,_,_,h=>by rw[own]at h ⊢;exact h
 | .b _,_,_,_,_,h=>by rw[own]at h ⊢;exact h
 | .s _,_,_,_,_,h=>by rw[own]at h ⊢;exact h
 | .st fs,_,_,_,hk,h=>by rw[own]at h ⊢;obtain⟨KW,css,h1,h2,h3⟩:=h;exact⟨KW,css,h1,h2,JX fs _ _ css hk h3⟩
 | .sl xs,_,_,_,hk,h=>by rw[own]at h ⊢;obtain⟨e,A,n,c,s,fB,F2,h1,h2,h3,hm,h4,rfl,h6⟩:=h;exact⟨e,A,n,c,s,fB,F2,h1,h2,h3,hm,h4.same (λg hg=>hk g (bJ _ hg)),rfl,mI xs e F2 _ (λg hg=>hk g (bD _ hg)) h6⟩
theorem JX:∀(l:List D) (ts:List TypeId) (F:List Nat) (css:List (List Value)),(∀g∈F,w'.heap[g]?=w.heap[g]?)->iB P w l ts F css->iB P w' l ts F css
 |[],_,_,_,_,h=>by rw[iB]at h ⊢;exact h
 |x::t,_,_,_,hk,h=>by rw[iB]at h ⊢;obtain⟨t1,t2,F1,F2,c1,c2,h1,rfl,h3,h4,h5⟩:=h;exact⟨t1,t2,F1,F2,c1,c2,h1,rfl,h3,nJ x t1 F1 c1 (λg hg=>hk g (bJ _ hg)) h4,JX t t2 F2 c2 (λg hg=>hk g (bD _ hg)) h5⟩
theorem mI:∀(l:List D) (e:TypeId) (F:List Nat) (css:List (List Value)),(∀g∈F,w'.heap[g]?=w.heap[g]?)->iv P w l e F css->iv P w' l e F css
 |[],_,_,_,_,h=>by rw[iv]at h ⊢;exact h
 |x::t,e,_,_,hk,h=>by rw[iv]at h ⊢;obtain⟨F1,F2,c1,c2,rfl,h3,h4,h5⟩:=h;exact⟨F1,F2,c1,c2,rfl,h3,nJ x e F1 c1 (λg hg=>hk g (bJ _ hg)) h4,mI t e F2 c2 (λg hg=>hk g (bD _ hg)) h5⟩
end
mutual
theorem jT:∀(d:D) (t:TypeId) (F:List Nat) (cs:List Value),own P w d t F cs->∀g∈F,g<w.heap.size
 | .i _ _,_,_,_,h=>by rw[own]at h;rw[h.1];simp
 | .b _,_,_,_,h=>by rw[own]at h;rw[h.1];simp
 | .s _,_,_,_,h=>by rw[own]at h;rw[h.1];simp
 | .st fs,_,_,_,h=>by rw[own]at h;obtain⟨KW,css,h1,h2,h3⟩:=h;exact Q8 fs _ _ css h3
 | .sl xs,_,_,_,h=>by
  rw[own]at h;obtain⟨e,A,n,c,s,fB,F2,h1,h2,h3,hm,h4,rfl,h6⟩:=h;intro g hg;rcases aG.1 hg with hg|hg
  ·exact(h4.lt' g hg).2
  ·exact qF xs e F2 _ h6 g hg
theorem Q8:∀(l:List D) (ts:List TypeId) (F:List Nat) (css:List (List Value)),iB P w l ts F css->∀g∈F,g<w.heap.size
 |[],_,_,_,h=>by rw[iB]at h;rw[h.2.1];simp
 |x::t,_,_,_,h=>by
  rw[iB]at h;obtain⟨t1,t2,F1,F2,c1,c2,h1,rfl,h3,h4,h5⟩:=h;intro g hg;rcases aG.1 hg with hg|hg
  ·exact jT x t1 F1 c1 h4 g hg
  ·exact Q8 t t2 F2 c2 h5 g hg
theorem qF:∀(l:List D) (e:TypeId) (F:List Nat) (css:List (List Value)),iv P w l e F css->∀g∈F,g<w.heap.size
 |[],_,_,_,h=>by rw[iv]at h;rw[h.1];simp
 |x::t,e,_,_,h=>by
  rw[iv]at h;obtain⟨F1,F2,c1,c2,rfl,h3,h4,h5⟩:=h;intro g hg;rcases aG.1 hg with hg|hg
  ·exact jT x e F1 c1 h4 g hg
  ·exact qF t e F2 c2 h5 g hg
end
mutual
theorem eW:∀(d:D) (t:TypeId) (F:List Nat) (cs:List Value),own P w d t F cs->rep w w.heap.size d cs
 | .i _ _,_,_,_,h=>by rw[own]at h;rw[rep];exact h.2
 | .b _,_,_,_,h=>by rw[own]at h;rw[rep];exact h.2
 | .s _,_,_,_,h=>by rw[own]at h;rw[rep];exact h.2
 | .st fs,_,_,_,h=>by rw[own]at h;obtain⟨KW,css,h1,h2,h3⟩:=h;rw[rep];exact⟨css,h2,NH fs _ _ css h3⟩
 | .sl xs,_,_,_,h=>by rw[own]at h;obtain⟨e,A,n,c,s,fB,F2,h1,h2,h3,hm,h4,rfl,h6⟩:=h;rw[rep];exact⟨A,n,c,s,fB,h3,h4.cap,hm,h4.reads Row.len,NG xs e F2 _ h6⟩
theorem NH:∀(l:List D) (ts:List TypeId) (F:List Nat) (css:List (List Value)),iB P w l ts F css->gb w w.heap.size l css
 |[],_,_,_,h=>by rw[iB]at h;rw[gb];exact h.2.2
 |x::t,_,_,_,h=>by rw[iB]at h;obtain⟨t1,t2,F1,F2,c1,c2,h1,rfl,h3,h4,h5⟩:=h;rw[gb];exact⟨c1,c2,h3,eW x t1 F1 c1 h4,NH t t2 F2 c2 h5⟩
theorem NG:∀(l:List D) (e:TypeId) (F:List Nat) (css:List (List Value)),iv P w l e F css->gb w w.heap.size l css
 |[],_,_,_,h=>by rw[iv]at h;rw[gb];exact h.2
 |x::t,e,_,_,h=>by rw[iv]at h;obtain⟨F1,F2,c1,c2,rfl,h3,h4,h5⟩:=h;rw[gb];exact⟨c1,c2,h3,eW x e F1 c1 h4,NG t e F2 c2 h5⟩
end
theorem em {d:D} {t:TypeId} {F:List Nat} {cs:List Value} (h:own P w d t F cs) (hb:Below w.heap.size w w'):own P w' d t F cs:=
 nJ d t F cs (λg hg=>hb.block g (jT d t F cs h g hg)) h
theorem lG {d:D} {t:TypeId} {F:List Nat} {cs:List Value} (h:own P w d t F cs) {p:Addr} (hp:p.block ∉ F) (u:Value):own P (w.setCell p u) d t F cs:=
 nJ d t F cs (λg hg=>Below.heap_setCell w p u g (by rintro rfl;exact hp hg)) h
theorem s_:∀{l:List D} {e:TypeId} {F F':List Nat} {css:List (List Value)} {d:D} {cs:List Value},iv P w l e F css->own P w d e F' cs->iv P w (l++[d]) e (F++F') (css++[cs])
 |[],e,F,F',css,d,cs,h,h'=>by rw[iv]at h;obtain⟨rfl,rfl⟩:=h;rw[cJ,iv];exact⟨F',[],cs,[],by simp,rfl,h',by rw[iv];exact⟨rfl,rfl⟩⟩
 |x::t,e,F,F',css,d,cs,h,h'=>by rw[iv]at h;obtain⟨F1,F2,c1,c2,rfl,rfl,h4,h5⟩:=h;rw[cK,iv];exact⟨F1,F2++F',c1,c2++[cs],by simp,rfl,h4,s_ h5 h'⟩
theorem p_:iB P w [] [] [] []:=by rw[iB];exact⟨rfl,rfl,rfl⟩
theorem fg {x:D} {l:List D} {t1:TypeId} {t2:List TypeId} {F1 F2:List Nat} {c1:List Value} {c2:List (List Value)} (h:own P w x t1 F1 c1) (h':iB P w l t2 F2 c2):iB P w (x::l) (t1::t2) (F1++F2) (c1::c2):=by rw[iB];exact⟨t1,t2,F1,F2,c1,c2,rfl,rfl,rfl,h,h'⟩
theorem pk {w:World} {p:Addr} {u:Value} {g:Nat} {o:Option Obj} (h:g≠p.block) (h':w.heap[g]?=o):(w.setCell p u).heap[g]?=o:=(Below.heap_setCell w p u g h).trans h'
def Fresh (B:Nat) (F:List Nat):Prop:=F.Nodup/\∀g∈F,B<=g
theorem Fresh.nil {B:Nat}:Fresh B []:=⟨List.nodup_nil,by simp⟩
theorem Fresh.app {B B':Nat} {F F':List Nat} (h:Fresh B F) (hl:∀g∈F,g<B') (h':Fresh B' F') (hB:B<=B'):Fresh B (F++F'):=
 ⟨aE.2 ⟨h.1,h'.1,λa ha b hb e=>by have:=hl a ha;have:=h'.2 b hb;omega⟩,λg hg=>by
  rcases aG.1 hg with hg|hg
  ·exact h.2 g hg
  ·have:=h'.2 g hg;omega⟩
theorem Fresh.mono {B B':Nat} {F:List Nat} (h:Fresh B F) (hB:B'<=B):Fresh B' F:=⟨h.1,λg hg=>du hB (h.2 g hg)⟩
theorem Fresh.notin {B:Nat} {F:List Nat} (h:Fresh B F) {g:Nat} (hg:g<B):g ∉ F:=λhm=>by have:=h.2 g hm;omega
theorem Fresh.one {B:Nat} {A:Option Addr} (h:∀g∈oz A,B<=g):Fresh B (oz A):=⟨by cases A<;>simp [oz],h⟩
end
theorem dW (w:World):w.drew.heap.size=w.heap.size:=rfl
theorem kK {d:D} (h:rep w w.heap.size d cs):rep w.drew w.drew.heap.size d cs:=vP h
theorem sL {d:D} (h:rep w w.heap.size d cs):rep (w.alloc o) (w.alloc o).heap.size d cs:=fM h ((Below.refl _ _).alloc (af _) _)
theorem Blk.dw (h:Blk w g t cs):Blk w.drew g t cs:=h
theorem Blk.al (h:Blk w g t cs):Blk (w.alloc o) g t cs:=h.next ((Below.refl _ _).alloc (af _) _)
theorem gX {d:D} (h:own P w d t F cs):own P w.drew d t F cs:=nJ (w:=w) d t F cs (λ_ _=>rfl) h
theorem fK {d:D} (h:own P w d t F cs):own P (w.alloc o) d t F cs:=em h ((Below.refl _ _).alloc (af _) _)
theorem jR (h:Below B a w):Below B a w.drew:=h.drew
theorem Blk.pk (hp:p.block≠g) (h:Blk w g t cs):Blk (w.setCell p u) g t cs:=(Below.heap_setCell w p u g (Ne.symm hp)).trans h
theorem Blk.new' {l:List Value}:Blk (w.alloc (.cells l.toArray t)) w.heap.size t l:=by simpa using Blk.new_ w t l.toArray
theorem Blk.newd {l:List Value}:Blk (w.drew.alloc (.cells l.toArray t)) w.heap.size t l:=Blk.new' (w:=w.drew)
theorem Blk.c8 {a c d e:Value} (q:Blk w g t [a,b,c,d,e,f,h,i]):w.cell? ⟨g,0,none⟩=some a/\w.cell? ⟨g,1,none⟩=some b/\w.cell? ⟨g,2,none⟩=some c/\w.cell? ⟨g,3,none⟩=some d/\w.cell? ⟨g,4,none⟩=some e/\w.cell? ⟨g,5,none⟩=some f/\w.cell? ⟨g,6,none⟩=some h/\w.cell? ⟨g,7,none⟩=some i:=
 ⟨q.cell 0,q.cell 1,q.cell 2,q.cell 3,q.cell 4,q.cell 5,q.cell 6,q.cell 7⟩
theorem Blk.set8 {a c d e a' b' c' d' e' f' h' i':Value} (q:Blk w g t [a,b,c,d,e,f,h,i]):Blk ((((((((w.setCell ⟨g,0,none⟩ a').setCell ⟨g,1,none⟩ b').setCell ⟨g,2,none⟩ c').setCell ⟨g,3,none⟩ d').setCell ⟨g,4,none⟩ e').setCell ⟨g,5,none⟩ f').setCell ⟨g,6,none⟩ h').setCell ⟨g,7,none⟩ i') g t [a',b',c',d',e',f',h',i']:=
 (((((((q.set_ 0 _).set_ 1 _).set_ 2 _).set_ 3 _).set_ 4 _).set_ 5 _).set_ 6 _).set_ 7 _
theorem ft {d:D} (h:own P w d t F cs) (hp:p.block ∉ F):own P (w.setCell p u) d t F cs:=lG h hp u
def Lo (B:Nat) (F:List Nat):Prop:=∀g∈F,g<B
theorem gC {d:D} (h:own P w d t F cs):Lo w.heap.size F:=jT d t F cs h
theorem Lo.notin (h:Lo B F) (hg:B<=g):g ∉ F:=λhm=>by have:=h g hm;omega
theorem Lo.mono (h:Lo B F) (hB:B<=B'):Lo B' F:=λg hg=>db (h g hg) hB
theorem Lo.app (h:Lo B F) (h':Lo B F'):Lo B (F++F'):=λg hg=>by
 rcases aG.1 hg with hg|hg
 ·exact h g hg
 ·exact h' g hg
theorem Lo.cons (hg:g<B) (h:Lo B F):Lo B (g::F):=λx hx=>by
 rcases aX.1 hx with rfl|hx
 ·exact hg
 ·exact h x hx
theorem Lo.nil:Lo B []:=λg hg=>by simp at hg
theorem fR (h:g ∉ F) (h':g ∉ F'):g ∉ F++F':=by simp [h,h']
theorem fS:g ∉ ([]:List Nat):=dR
theorem Fresh.cons (h:g ∉ F) (hB:B<=g) (hf:Fresh B F):Fresh B (g::F):=⟨aQ.2 ⟨h,hf.1⟩,λx hx=>by
 rcases aX.1 hx with rfl|hx
 ·exact hB
 ·exact hf.2 x hx⟩
theorem Fresh.app2 (hl:Lo C F) (h:Fresh B F) (h':Fresh C F') (hB:B<=C):Fresh B (F++F'):=h.app hl h' hB
theorem gR (h:Below B a w) (hb:Below w.heap.size w w') (hB:B<=w.heap.size):Below B a w':=h.trans (hb.mono hB)
theorem gT (h:Below B a w) (hB:B<=w.heap.size):Below B a (w.alloc o):=h.alloc hB o
theorem ie (h:Below B a w) (hB:B<=p.block):Below B a (w.setCell p u):=h.setCell hB u
def ZW (c:UInt8):Bool:=decide (33<=c.toNat/\c.toNat<=126/\c.toNat≠96)
def isNm (s:Str):Bool:=s.all ZW&&decide (1<=s.length/\s.length<=20)
theorem nN {p:α->Bool} {s:List α} {c:α} (h:s[k]?=some c) (hb:p c=false):s.all p=false:=by rw[List.all_eq_false];exact⟨c,aA h,by simp [hb]⟩
theorem iY {p:α->Bool} {s:List α} {c:α} (h:s[k]?=some c) (ha:(s.take k).all p=true) (hb:p c=true):(s.take (k+1)).all p=true:=by rw[eJ h,List.all_append,ha];simp [hb]
theorem jK (s:Str) (w:World) (hs:s.length<=maxLen):
 Calls prog 61 #[sv s] w λe w'=>e= .returned (.bool (isNm s))/\w=w':=by
 unfold maxLen at hs;go_enter func61,ntmps61;go_wp2;go_loop [3] (λi=>∃(k:Nat),k<=s.length/\i= .int .i64 k/\(s.take k).all ZW=true) (λi=>s.length - (intOf i).toNat)
 case atStart=>exact⟨0,by omega,rfl,by simp⟩
 case round=>
  obtain⟨k,hk,rfl,hf⟩:=hrel;have HF:=aa hf;clear hf;by_cases hlt:k<s.length
  ·exact G_
  ·obtain rfl:k=s.length:=dP;have hf:=HF.out;rw[cC]at hf;have HG:=aa hf;clear hf HF;by_cases h1:1<=(s.length:Int)
   ·go_wp2;go_ret;exact⟨dZ (by rw[isNm,HG.out,aj,dL];omega),rfl⟩
   ·go_wp2;go_ret;exact⟨dZ (by rw[isNm,HG.out,aj,eq_comm,bB];omega),rfl⟩
theorem gj (x a b:Int) (w:World):Calls prog 68 #[x,a,b] w λe w'=>e= .returned (.bool (decide (a<=x/\x<=b)))/\w=w':=by
 by_cases h:a<=x
 ·go_enter func68,ntmps68;go_wp2;go_ret;exact⟨dZ (by simp [h]),rfl⟩
 ·go_enter func68,ntmps68;go_wp2;go_ret;exact⟨dZ dS,rfl⟩
theorem jL (s:Str) (w:World) (hs:s.length<=maxLen):
 Calls prog 65 #[sv s] w λe w'=>e= .returned (.bool (isNm s))/\w=w':=by
 unfold maxLen at hs;go_enter func65,ntmps65;go_wp2;go_loop [3] (λi=>∃(k:Nat),k<=s.length/\i= .int .i64 k/\(s.take k).all ZW=true) (λi=>s.length - (intOf i).toNat)
 case atStart=>exact⟨0,by omega,rfl,by simp⟩
 case round=>
  obtain⟨k,hk,rfl,hf⟩:=hrel;have HF:=aa hf;clear hf;by_cases hlt:k<s.length
  ·exact G_
  ·obtain rfl:k=s.length:=dP;have hf:=HF.out;rw[cC]at hf;have HG:=aa hf;clear hf HF;go_wp2_with (go_at_call 68;refine(gj _ _ _ _).mono ?_;rintro e w1 ⟨rfl,rfl⟩);go_ret;exact⟨dZ (by rw[isNm,HG.out,aj,<-Bool.decide_and,dL];omega),rfl⟩
def ix:List Str->Str->Nat->Int
 |[],_,_=> -1
 |e::t,key,i=>if e=key then i else ix t key (i+1)
theorem Yd (l:List Str) (k:Nat) (e key:Str) (h:l[k]?=some e):ix (l.drop k) key k=if e=key then (k:Int) else ix (l.drop (k+1)) key (k+1):=by obtain⟨hk,he⟩:=ay.1 h;rw[cR hk,he,ix]
theorem UW (l:List Str) (key:Str) (i:Nat):decide (0<=ix l key i)=l.contains key:=by
 induction l generalizing i with
 |nil=>simp [ix]
 |cons a t ih=>
  rw[ix,List.contains_cons];by_cases h:a=key
  ·simp [h]
  ·rw[aH h,ih];have:(key==a)=false:=by simp;exact λh'=>h h'.symm
   rw[this];rfl
theorem pY (l:List Str) (key:Str) (i:Nat): -1<=ix l key i/\ix l key i<i+l.length:=by
 induction l generalizing i with
 |nil=>simp [ix];omega
 |cons a t ih=>rw[ix];have:=ih (i+1);split<;>simp<;>omega
theorem jx (A:Option Addr) (len cap:Nat) (l:List Str) (key:Str) (w:World) (hr:Reads encS 1 w w.heap.size A len l) (gK:len<=maxLen):
 Calls prog 102 #[.slice A len cap,sv key] w λe w'=>e= .returned (.int .i64 (ix l key 0))/\w=w':=by
 unfold maxLen at gK;go_enter func102,ntmps102;go_wp2;go_loop [9] (λi=>∃(k:Nat),k<=len/\i= .int .i64 k/\ix l key 0=ix (l.drop k) key k) (λi=>len - (intOf i).toNat)
 case atStart=>exact⟨0,by omega,rfl,rfl⟩
 case round=>
  obtain⟨k,hk,rfl,hf⟩:=hrel;have HF:=aa hf;clear hf;by_cases hlt:k<len
  ·exact GA
  ·exact Ge
theorem gG (A:Option Addr) (len cap:Nat) (l:List Str) (key:Str) (w:World) (hr:Reads encS 1 w w.heap.size A len l) (gK:len<=maxLen):
 Calls prog 49 #[.slice A len cap,sv key] w λe w'=>e= .returned (.int .i64 (ix l key 0))/\w=w':=by
 unfold maxLen at gK;go_enter func49,ntmps49;go_wp2;go_loop [5] (λi=>∃(k:Nat),k<=len/\i= .int .i64 k/\ix l key 0=ix (l.drop k) key k) (λi=>len - (intOf i).toNat)
 case atStart=>exact⟨0,by omega,rfl,rfl⟩
 case round=>
  obtain⟨k,hk,rfl,hf⟩:=hrel;have HF:=aa hf;clear hf;by_cases hlt:k<len
  ·exact GA
  ·exact Ge
theorem Bx (A:Option Addr) (len cap:Nat) (l:List Str) (key:Str) (w:World) (hr:Reads encS 1 w w.heap.size A len l) (gK:len<=maxLen):
 Calls prog 62 #[.slice A len cap,sv key] w λe w'=>e= .returned (.bool (l.contains key))/\w=w':=by
 go_enter func62,ntmps62;go_wp2_with fail;refine(jx A len cap l key _ hr gK).mono ?_;rintro e w1 ⟨rfl,rfl⟩;go_wp2_with fail;go_ret;exact⟨dZ (UW l key 0),rfl⟩
theorem Rq:(prog.info? 9).map (λi=>(i.zero,i.size,i.bytes))=some (some (sv []),1,16):=dU
theorem jm:ElemTy prog 25 9 1 16:=by obtain⟨i0,DI,rJ,tW,hz2⟩:=cZ Rq;exact⟨i0,_,underlying25,DI,rJ,tW,hz2,rfl,by omega⟩
abbrev TV (w:World) (base:Nat) (A:Option Addr) (n c:Nat) (l:List Str):Prop:=Own encS 1 9 w base A n c l
def mid (s:Str):Str:=(s.drop 2).take (s.length - 3 - 2)
theorem ls (w:World) (B:Nat) (l:List Str) (cs:List Value):rep w B (.sl (l.map .s)) cs↔∃(A:Option Addr) (n c:Nat),cs=[.slice A n c]/\n<=c/\c<=maxLen/\Reads encS 1 w B A n l/\∀x∈l,x.length<=maxLen:=
 EP (λx cs=>by rw[rep];rfl) gW l cs
theorem qy (w:World) (B:Nat) (l:List Int) (cs:List Value):rep w B (.sl (l.map (.i .i64))) cs↔∃(A:Option Addr) (n c:Nat),cs=[.slice A n c]/\n<=c/\c<=maxLen/\Reads mR 1 w B A n l/\∀x∈l,(Lit.int .i64 x).wf=true:=
 EP (λx cs=>by rw[rep];rfl) iu l cs
theorem kP {n:Int}:(Lit.int .i64 n).wf=true↔ -9223372036854775808<=n/\n<=9223372036854775807:=by simp [Lit.wf,IntKind.min,IntKind.max,IntKind.signed,IntKind.bits]
structure Item where
 num:Int
 den:Int
 text:Str
 deriving DecidableEq
def Item.toD (x:Item):D:= .st [.i .i64 x.num,.i .i64 x.den,.s x.text]
def encItem (x:Item):List Value:=[.int .i64 x.num,.int .i64 x.den,sv x.text]
theorem nW (x:Item):(encItem x).length=3:=rfl
theorem uY (x:Item):∀u∈encItem x,u.oneCell'=true:=by simp [encItem,Value.oneCell']
def itOK (x:Item):Prop:=(Lit.int .i64 x.num).wf=true/\(Lit.int .i64 x.den).wf=true/\x.text.length<=maxLen
theorem VN (w:World) (B:Nat) (x:Item) (cs:List Value):rep w B x.toD cs↔cs=encItem x/\itOK x:=by
 unfold Item.toD encItem itOK;rw[rep];constructor
 ·rintro⟨css,rfl,h⟩;rw[gb]at h;obtain⟨c0,css,rfl,k0,h⟩:=h;rw[gb]at h;obtain⟨c1,css,rfl,k1,h⟩:=h;rw[gb]at h;obtain⟨c2,css,rfl,k2,h⟩:=h;rw[gb]at h;subst h;rw[rep]at k0;rw[rep]at k1;rw[rep]at k2;rw[k0.1,k1.1,k2.1];exact⟨rfl,k0.2,k1.2,k2.2⟩
 ·rintro⟨rfl,h0,h1,h2⟩;exact⟨[[.int .i64 x.num],[.int .i64 x.den],[sv x.text]],rfl,jW.2 ⟨by rw[rep];exact⟨rfl,h0⟩,jW.2 ⟨by rw[rep];exact⟨rfl,h1⟩,jW.2 ⟨by rw[rep];exact⟨rfl,h2⟩,EO⟩⟩⟩⟩
theorem NS (w:World) (B:Nat) (l:List Item) (cs:List Value):rep w B (.sl (l.map Item.toD)) cs↔∃(A:Option Addr) (n c:Nat),cs=[.slice A n c]/\n<=c/\c<=maxLen/\Reads encItem 3 w B A n l/\∀x∈l,itOK x:=
 EP (VN w B) nW l cs
theorem Reads.at3 {l:List Item} (h:Reads encItem 3 w B A n l) (hk:k<n):
 ∃b off x,A=some ⟨b,off,none⟩/\b<B/\l[k]?=some x/\w.cell? ⟨b,off+k*3,none⟩=some (.int .i64 x.num)/\w.cell? ⟨b,off+k*3+1,none⟩=some (.int .i64 x.den)/\w.cell? ⟨b,off+k*3+2,none⟩=some (sv x.text):=by
 obtain⟨b,off,x,e,hb,hx,hc⟩:=h.at_ hk;exact⟨b,off,x,e,hb,hx,hc 0 _ rfl,hc 1 _ rfl,hc 2 _ rfl⟩
structure Vec where
 kind:Int
 items:List Item
 parts:List Vec
 names:List Str
 cls:List Str
 levels:List Str
 code:Int
 env:Int
mutual
def Vec.toD:Vec->D
 |⟨k,i,p,n,c,l,cd,e⟩=> .st [.i .i64 k,.sl (i.map Item.toD),.sl (Vec.toDs p),.sl (n.map .s),.sl (c.map .s),.sl (l.map .s),.i .i64 cd,.i .i64 e]
def Vec.toDs:List Vec->List D
 |[]=>[]
 |v::t=>v.toD::Vec.toDs t
end
theorem V6 (l:List Vec):Vec.toDs l=l.map Vec.toD:=by
 induction l with
 |nil=>rw[Vec.toDs];rfl
 |cons a t ih=>rw[Vec.toDs,ih];rfl
theorem V5 (v:Vec):v.toD= .st [.i .i64 v.kind,.sl (v.items.map Item.toD),.sl (v.parts.map Vec.toD),.sl (v.names.map .s),.sl (v.cls.map .s),.sl (v.levels.map .s),.i .i64 v.code,.i .i64 v.env]:=by cases v;rw[Vec.toD,V6]
abbrev vc (v:Vec) (Ai:Option Addr) (ni ci:Nat) (Ap:Option Addr) (np cp:Nat) (An:Option Addr) (nn cn:Nat) (Ac:Option Addr) (nc cc:Nat) (Al:Option Addr) (nl cl:Nat):List Value:=
 [v.kind,.slice Ai ni ci,.slice Ap np cp,.slice An nn cn,.slice Ac nc cc,.slice Al nl cl,v.code,v.env]
structure VR (w:World) (B:Nat) (v:Vec) (Ai:Option Addr) (ni ci:Nat) (Ap:Option Addr) (np cp:Nat) (An:Option Addr) (nn cn:Nat) (Ac:Option Addr) (nc cc:Nat) (Al:Option Addr) (nl cl:Nat):Prop where
 wk:(Lit.int .i64 v.kind).wf=true
 wc:(Lit.int .i64 v.code).wf=true
 we:(Lit.int .i64 v.env).wf=true
 it:Reads encItem 3 w B Ai ni v.items
 ito:∀x∈v.items,itOK x
 itb:ni<=ci/\ci<=maxLen
 pa:rep w B (.sl (v.parts.map Vec.toD)) [.slice Ap np cp]
 pab:np<=cp/\cp<=maxLen/\v.parts.length=np
 na:Reads encS 1 w B An nn v.names
 nao:∀x∈v.names,x.length<=maxLen
 nab:nn<=cn/\cn<=maxLen
 ca:Reads encS 1 w B Ac nc v.cls
 cao:∀x∈v.cls,x.length<=maxLen
 cab:nc<=cc/\cc<=maxLen
 la:Reads encS 1 w B Al nl v.levels
 lao:∀x∈v.levels,x.length<=maxLen
 lab:nl<=cl/\cl<=maxLen
theorem ef {xs:List D} (h:rep w B (.sl xs) [.slice A n c]):xs.length=n/\n<=c/\c<=maxLen:=by
 rw[rep]at h;obtain⟨A',n',c',s,fB,he,h1,h2,h3,h4⟩:=h;injection he with he;injection he with e1 e2 e3;subst e1 e2 e3
 exact⟨by rw[vO h4,au];exact h3.len,h1,h2⟩
theorem fD {xs:List D} (h:rep w B (.sl xs) cs):∃A n c,cs=[.slice A n c]:=by rw[rep]at h;obtain⟨A',n',c',s,fB,he,_⟩:=h;exact⟨_,_,_,he⟩
theorem Rp {f:α->D} {l:List α} (h:rep w B (.sl (l.map f)) [.slice A n c]) (hk:k<n):
 ∃b off x cs,A=some ⟨b,off,none⟩/\b<B/\l[k]?=some x/\rep w B (f x) cs/\∀j u,cs[j]?=some u->w.cell? ⟨b,off+k*cs.length+j,none⟩=some u:=by
 rw[rep]at h;obtain⟨A',n',c',s,fB,he,h1,h2,h3,h4⟩:=h;injection he with he;injection he with e1 e2 e3;subst e1 e2 e3
 have hl:=vO h4;simp only[au]at hl;have hlr:=h3.len;have hx:l[k]?=some (l[k]' dP):=aw dP;obtain⟨b,off,r,e,hb,hr,hc⟩:=h3.at_ hk;have hxr:=CI h4 (k:=k) (d:=f (l[k]' dP)) (cs:=r.v) iF (by simp [hr]);exact⟨b,off,_,r.v,e,hb,hx,hxr,λj u hu=>by rw[Row.len];exact hc j u hu⟩
theorem iy {v:Vec} (h:rep w B v.toD cs):
 ∃Ai ni ci Ap np cp An nn cn Ac nc cc Al nl cl,cs=vc v Ai ni ci Ap np cp An nn cn Ac nc cc Al nl cl/\VR w B v Ai ni ci Ap np cp An nn cn Ac nc cc Al nl cl:=by
 rw[V5,rep]at h;obtain⟨css,rfl,h⟩:=h;rw[gb]at h;obtain⟨c0,css,rfl,k0,h⟩:=h;rw[gb]at h;obtain⟨c1,css,rfl,k1,h⟩:=h;rw[gb]at h;obtain⟨c2,css,rfl,k2,h⟩:=h;rw[gb]at h;obtain⟨c3,css,rfl,k3,h⟩:=h;rw[gb]at h;obtain⟨c4,css,rfl,k4,h⟩:=h;rw[gb]at h;obtain⟨c5,css,rfl,k5,h⟩:=h;rw[gb]at h;obtain⟨c6,css,rfl,k6,h⟩:=h;rw[gb]at h;obtain⟨c7,css,rfl,k7,h⟩:=h;rw[gb]at h;subst h;rw[rep]at k0;rw[rep]at k6;rw[rep]at k7;obtain⟨rfl,k0⟩:=k0;obtain⟨rfl,k6⟩:=k6;obtain⟨rfl,k7⟩:=k7;obtain⟨Ai,ni,ci,rfl,a1,a2,a3,a4⟩:=(NS _ _ _ _).1 k1;obtain⟨Ap,np,cp,rfl⟩:=fD k2;obtain⟨An,nn,cn,rfl,n1,n2,n3,n4⟩:=(ls _ _ _ _).1 k3;obtain⟨Ac,nc,cc,rfl,b1,b2,b3,b4⟩:=(ls _ _ _ _).1 k4;obtain⟨Al,nl,cl,rfl,l1,l2,l3,l4⟩:=(ls _ _ _ _).1 k5;have hp:=ef k2;exact⟨Ai,ni,ci,Ap,np,cp,An,nn,cn,Ac,nc,cc,Al,nl,cl,rfl,k0,k6,k7,a3,a4,⟨a1,a2⟩,k2,⟨hp.2.1,hp.2.2,by simpa using hp.1⟩,n3,n4,⟨n1,n2⟩,b3,b4,⟨b1,b2⟩,l3,l4,⟨l1,l2⟩⟩
theorem rz {l:List Vec} (h:rep w B (.sl (l.map Vec.toD)) [.slice A n c]) (hk:k<n):
 ∃b off x Ai ni ci Ap np cp An nn cn Ac nc cc Al nl cl,A=some ⟨b,off,none⟩/\b<B/\l[k]?=some x/\rep w B x.toD (vc x Ai ni ci Ap np cp An nn cn Ac nc cc Al nl cl)/\VR w B x Ai ni ci Ap np cp An nn cn Ac nc cc Al nl cl/\
  w.cell? ⟨b,off+k*8,none⟩=some (.int .i64 x.kind)/\w.cell? ⟨b,off+k*8+1,none⟩=some (.slice Ai ni ci)/\w.cell? ⟨b,off+k*8+2,none⟩=some (.slice Ap np cp)/\w.cell? ⟨b,off+k*8+3,none⟩=some (.slice An nn cn)/\
  w.cell? ⟨b,off+k*8+4,none⟩=some (.slice Ac nc cc)/\w.cell? ⟨b,off+k*8+5,none⟩=some (.slice Al nl cl)/\w.cell? ⟨b,off+k*8+6,none⟩=some (.int .i64 x.code)/\w.cell? ⟨b,off+k*8+7,none⟩=some (.int .i64 x.env):=by
 rw[rep]at h;obtain⟨A',n',c',s,fB,he,h1,h2,h3,h4⟩:=h;injection he with he;injection he with e1 e2 e3;subst e1 e2 e3
 have hl:=vO h4;simp only[au]at hl;have hlr:=h3.len;have hx:l[k]?=some (l[k]' dP):=aw dP;obtain⟨b,off,r,e,hb,hr,hc⟩:=h3.at_ hk;have hxr:=CI h4 (k:=k) (d:=(l[k]' dP).toD) (cs:=r.v) iF (by simp [hr]);obtain⟨Ai,ni,ci,Ap,np,cp,An,nn,cn,Ac,nc,cc,Al,nl,cl,lK,hv⟩:=iy hxr;have hs:s=8:=by rw[<-Row.len r,lK];rfl
 subst hs;rw[lK]at hc hxr;exact⟨b,off,_,Ai,ni,ci,Ap,np,cp,An,nn,cn,Ac,nc,cc,Al,nl,cl,e,hb,hx,hxr,hv,hc 0 _ rfl,hc 1 _ rfl,hc 2 _ rfl,hc 3 _ rfl,hc 4 _ rfl,hc 5 _ rfl,hc 6 _ rfl,hc 7 _ rfl⟩
def xM:Nat->Nat->Str->Str
 |0,_,s=>s
 |f+1,k,s=>if k=0 then s else xM f (k/10) ((48+UInt8.ofNat (k % 10))::s)
theorem T6 (f g k:Nat) (s:Str) (h:k<=f) (h':k<=g):xM f k s=xM g k s:=by
 induction f generalizing g k s with
 |zero=>
  have:k=0:=dP;subst this;cases g<;>simp [xM]
 |succ f ih=>
  cases g with
  |zero=>
   have:k=0:=dP;subst this;simp [xM]
  |succ g=>
   rw[xM,xM];split
   ·rfl
   ·exact ih _ _ _ dP dP
theorem Du (k:Nat) (s:Str) (h:0<k):xM k k s=xM (k/10) (k/10) ((48+UInt8.ofNat (k % 10))::s):=by obtain⟨f,rfl⟩:∃f,k=f+1:=⟨k - 1,by omega⟩;rw[xM,aH dP];exact T6 _ _ _ _ dP dP
def mk (k:Nat):Str:=if k=0 then[109,48] else 109::xM k k []
theorem CB:(prog.info? 3).map (λi=>(i.zero,i.size,i.bytes))=some (some (.int .i64 0),1,8):=dU
mutual
def szD:D->Nat
 | .i _ _=>0
 | .b _=>0
 | .s x=>x.length
 | .st fs=>gv fs
 | .sl xs=>xs.length+gv xs
def gv:List D->Nat
 |[]=>0
 |x::t=>szD x+gv t
end
theorem Aj (l l':List D):gv (l++l')=gv l+gv l':=by
 induction l with
 |nil=>simp [gv]
 |cons a t ih=>simp only[cK,gv,ih];omega
theorem rC {x:D}:∀{l:List D},x∈l->szD x<=gv l
 |[],h=>by simp at h
 |a::t,h=>by
  rw[gv];rcases aX.1 h with rfl|h
  ·omega
  ·have:=rC h;omega
theorem Bd {α:Type} {f:α->D} (hf:∀x,szD (f x)=0) (l:List α):gv (l.map f)=0:=by
 induction l with
 |nil=>rfl
 |cons a t ih=>rw[br,gv,ih,hf]
theorem VX {α:Type} {enc:α->List Value} {s:Nat} (mB:∀x,(enc x).length=s) (l:List α):(l.map (λx=>(⟨enc x,mB x⟩:Row s))).flatMap Row.v=l.flatMap enc:=by
 induction l with
 |nil=>rfl
 |cons a t ih=>rw[br,cB,cB,ih]
theorem Q7 {P:Program} {w:World} {α:Type} {f:α->D} {enc:α->List Value} {e:TypeId}:∀{l:List α},(∀x∈l,own P w (f x) e [] (enc x))->iv P w (l.map f) e [] (l.map enc)
 |[],_=>by rw[bL,iv];exact⟨rfl,rfl⟩
 |x::t,h=>by rw[br,br,iv];exact⟨[],[],_,_,rfl,rfl,h x aT,Q7 λy hy=>h y (aP _ hy)⟩
theorem zZ {f:α->D} {enc:α->List Value} {l:List α} (mB:∀x,(enc x).length=s) (ht:P.underlying t=some (.slice e)) (hs:P.cellsOf e=s)
 (h:Own enc s e w base A n c l) (hc:c<=maxLen) (hf:∀x∈l,own P w (f x) e [] (enc x)):own P w (.sl (l.map f)) t (oz A) [.slice A n c]:=by
 rw[own];refine⟨e,A,n,c,s,l.map (λx=>⟨enc x,mB x⟩),[],ht,hs,rfl,hc,?_,by simp,?_⟩
 ·have h2:=h.mono (dj _);exact⟨by simpa using h2.1,by rw[VX];exact h2.2⟩
 ·rw[List.map_map];exact Q7 hf
theorem Yz (x:Str) (F:List Nat) (cs:List Value) (h:own P w (.s x) e F cs):F=[]/\cs=encS x:=by rw[own]at h;exact⟨h.1,h.2.1⟩
theorem Vx {l:List Str} (h:TV w base A n c l) (hc:c<=maxLen) (hl:∀x∈l,x.length<=maxLen):own prog w (.sl (l.map .s)) 25 (oz A) [.slice A n c]:=
 zZ gW underlying25 dU h hc (λx hx=>by rw[own];exact⟨rfl,rfl,hl x hx⟩)
def oK (xs:List D) (t:TypeId) (w:World) (e:Ending) (w':World):Prop:=
 ∃(A:Option Addr) (n c:Nat) (F:List Nat),e= .returned (.slice A n c)/\own prog w' (.sl xs) t F [.slice A n c]/\Fresh w.heap.size F/\Below w.heap.size w w'
def gM (d:D) (t:TypeId) (w:World) (e:Ending) (w':World):Prop:=
 ∃(cs:List Value) (F:List Nat),e= .returned (.agg cs.toArray)/\own prog w' d t F cs/\Fresh w.heap.size F/\Below w.heap.size w w'
def Mod (F:List Nat) (w w':World):Prop:=(w'.os=w.os/\w'.tape=w.tape/\w'.output=w.output)/\w.heap.size<=w'.heap.size/\∀g,g<w.heap.size->g ∉ F->w'.heap[g]?=w.heap[g]?
section
variable {P:Program} {w w':World} {F G:List Nat} {B:Nat}
theorem Mod.size (h:Mod F w w'):w.heap.size<=w'.heap.size:=h.2.1
theorem Mod.below (h:Mod F w w') (hF:∀g∈F,B<=g) (hB:B<=w.heap.size):Below B w w':=
 ⟨h.1.1,h.1.2.1,h.1.2.2,h.2.1,λk hk=>h.2.2 k dP (λhm=>by have:=hF k hm;omega)⟩
theorem Mod.of_below (h:Below w.heap.size w w'):Mod F w w':=⟨⟨h.os,h.tape,h.output⟩,h.size,λk hk _=>h.block k hk⟩
theorem Mod.mono (h:Mod F w w') (hF:∀g∈F,g∈G):Mod G w w':=⟨h.1,h.2.1,λk hk hn=>h.2.2 k hk (λhm=>hn (hF k hm))⟩
theorem Mod.trans {w2:World} (h:Mod F w w') (k:Mod G w' w2) (hG:∀g∈G,g∈F\/w.heap.size<=g):Mod F w w2:=
 ⟨⟨k.1.1.trans h.1.1,k.1.2.1.trans h.1.2.1,k.1.2.2.trans h.1.2.2⟩,du h.2.1 k.2.1,λg hg hn=>(k.2.2 g (db hg h.2.1) (λhm=>by rcases hG g hm with h1|h1;exact hn h1;omega)).trans (h.2.2 g hg hn)⟩
theorem Mod.refl:Mod F w w:=⟨⟨rfl,rfl,rfl⟩,af _,λ_ _ _=>rfl⟩
theorem fH {d:D} {t:TypeId} {cs:List Value} (h:own P w d t G cs) (hm:Mod F w w') (hd:∀g∈G,g ∉ F):own P w' d t G cs:=
 nJ d t G cs (λg hg=>hm.2.2 g (jT d t G cs h g hg) (hd g hg)) h
theorem Vv {l:List D} {e:TypeId} {css:List (List Value)} (h:iv P w l e G css) (hm:Mod F w w') (hd:∀g∈G,g ∉ F):iv P w' l e G css:=
 mI l e G css (λg hg=>hm.2.2 g (qF l e G css h g hg) (hd g hg)) h
theorem Blk.mod {g:Nat} {t:TypeId} {cs:List Value} (h:Blk w g t cs) (hm:Mod F w w') (hd:g ∉ F):Blk w' g t cs:=(hm.2.2 g h.lt hd).trans h
theorem jN {a:World} (h:Below B a w) (hm:Mod F w w') (hF:∀g∈F,B<=g) (hB:B<=w.heap.size):Below B a w':=h.trans (hm.below hF hB)
mutual
theorem Rm:∀(d:D) (cs:List Value),rep w B d cs->∀u∈cs,u.oneCell'=true
 | .i _ _,cs,h=>by rw[rep]at h;rw[h.1];simp [Value.oneCell']
 | .b _,cs,h=>by rw[rep]at h;rw[h];simp [Value.oneCell']
 | .s _,cs,h=>by rw[rep]at h;rw[h.1];simp [Value.oneCell']
 | .st fs,cs,h=>by rw[rep]at h;obtain⟨css,rfl,h2⟩:=h;intro u hu;obtain⟨c1,hc,hu⟩:=List.mem_flatten.1 hu;exact NT fs css h2 c1 hc u hu
 | .sl xs,cs,h=>by rw[rep]at h;obtain⟨A,n,c,s,fB,rfl,_⟩:=h;simp [Value.oneCell']
theorem NT:∀(l:List D) (css:List (List Value)),gb w B l css->∀c∈css,∀u∈c,u.oneCell'=true
 |[],css,h=>by rw[gb]at h;rw[h];simp
 |x::t,css,h=>by
  rw[gb]at h;obtain⟨c1,c2,rfl,h1,h2⟩:=h;intro c hc;rcases aX.1 hc with rfl|hc
  ·exact Rm x _ h1
  ·exact NT t c2 h2 c hc
end
theorem Rc {d:D} {t:TypeId} {cs:List Value} (h:own P w d t F cs):∀u∈cs,u.oneCell'=true:=Rm d cs (eW d t F cs h)
end
def AppF (H:Nat) (F F' yX:List Nat):Prop:=yX.Nodup/\∀x∈yX,x∈F\/x∈F'\/x=H
theorem Jb {xs:List D}{c':Nat}{F2:List Nat} {d:D} {fB:List (Row s)} (h1:P.underlying t=some (.slice e)) (h2:P.cellsOf e=s)
 (hO:Own Row.v s e w 0 A n c fB) (hF:F=oz A++F2) (hA:iv P w xs e F2 (fB.map Row.v)) (hd:own P w d e F' cs) (hl:cs.length=s) (sM:(F++F').Nodup)
 (k1:w'.ownsRow 0 e s (.slice (some ⟨g,0,none⟩) (n+1) c') (n+1) (fB.flatMap Row.v++cs)) (k2:w.grownBy w' (Value.slice A n c).ownBlock) (k3:(Value.slice A n c).ownBlock=some g\/g=w.heap.size):
 ∃yX,own P w' (.sl (xs++[d])) t yX [.slice (some ⟨g,0,none⟩) (n+1) c']/\AppF w.heap.size F F' yX/\Mod F w w':=by
 subst hF;have hob:∀x,(Value.slice A n c).ownBlock=some x->x∈oz A:=by
  intro x hx;cases A with
  |none=>simp [Value.ownBlock]at hx
  |some a=>simp [Value.ownBlock]at hx;simp [oz,hx]
 have mC:Own Row.v s e w' 0 (some ⟨g,0,none⟩) (n+1) c' (fB++[⟨cs,hl⟩]):=⟨by simp [hO.1],by simpa [cj]using k1⟩;have Pv:=sM;rw[aS]at Pv;obtain⟨n1,n2,n3⟩:=aE.1 Pv;have hm:Mod (oz A) w w':=⟨⟨k2.os,k2.tape,k2.output⟩,k2.size,λi hi hn=>k2.block i hi (λe=>hn (hob i e.symm))⟩;have hlt:∀x∈F2++F',x<w.heap.size:=λx hx=>by
  rcases aG.1 hx with hx|hx
  ·exact qF _ _ _ _ hA x hx
  ·exact jT _ _ _ _ hd x hx
 have hgn:g ∉ F2++F':=λhx=>by
  rcases k3 with k3|k3
  ·exact n3 g (hob g k3) g hx rfl
  ·have:=hlt g hx;omega
 refine⟨g::(F2++F'),?_,⟨aQ.2 ⟨hgn,n2⟩,λx hx=>?_⟩,hm.mono λg hg=>bJ _ hg⟩
 ·rw[own];refine⟨e,_,_,_,s,fB++[⟨cs,hl⟩],F2++F',h1,h2,rfl,?_,mC,rfl,?_⟩
  ·exact mC.fil.2
  ·rw[aI];exact s_ (Vv hA hm λx hx hn=>n3 x hn x (bJ _ hx) rfl) (fH hd hm λx hx hn=>n3 x hn x (bD _ hx) rfl)
 ·rcases aX.1 hx with rfl|hx
  ·rcases k3 with k3|k3
   ·exact .inl (bJ _ (hob _ k3))
   ·exact .inr (.inr k3)
  ·rcases aG.1 hx with hx|hx
   ·exact .inl (bD _ hx)
   ·exact .inr (.inl hx)
section
variable {P:Program} {size bytes:Nat} {t e:TypeId} {ops:Array Oper} {o:Oper} {a:Act} {Q:Exit->Act->World->Prop} {w:World} {xs:List D} {A:Option Addr} {n c:Nat} {F F':List Nat} {d:D} {cs:List Value} {b m:Nat} {te:TypeId}
theorem gL {K:Act->World->Prop} {E:Prop} (hT:ElemTy P t e size bytes) (kD:P.cellsOf e=size) (zK:o.guard=none) (sl x:Operand)
 (ho:o.op= .call {callee:= .builtin .append,args:=#[sl,x],argTypes:=#[t,t]}) (hs:a.eval sl= .slice A n c) (mC:own P w (.sl xs) t F [.slice A n c])
 (hx:a.eval x= .slice (some ⟨b,0,none⟩) 1 m) (hb:Blk w b te cs) (hd:own P w d e F' cs) (hl:cs.length=size) (sM:(F++F').Nodup) (hn:n+1<=maxLen) (h63:(n+1)*bytes<=140737488355328)
 (h:∀g c' w' yX,own P w' (.sl (xs++[d])) t yX [.slice (some ⟨g,0,none⟩) (n+1) c']->AppF w.heap.size F F' yX->Mod F w w'->K (a.put o.dst (.slice (some ⟨g,0,none⟩) (n+1) c')) w'):
 if Region.wanted o (yielded ops a.tmps)=true then Oper.wp P o a w K Q else E:=by
 obtain⟨i,z,ht,hi,hz,i1,i2,i3,i4⟩:=hT.ok;have BC:=mC;rw[own]at BC;obtain⟨e',A',n',c',s,fB,F2,h1,h2,he,hm,hO,hF,hA⟩:=BC;injection he with he;injection he with e1 e2 e3;subst e1 e2 e3
 rw[ht]at h1;injection h1 with h1;injection h1 with h1;subst h1
 rw[kD]at h2;subst h2;refine step_append_lies w zK sl x t ho 0 e i z size bytes ht hi hz i1 i2 i3 i4 _ n _ hs hO.2 ⟨b,0,none⟩ 1 m cs hx (by rw[hl,Nat.one_mul]) (World.news_of_block (cs:=cs.toArray) hb) (Rc hd) dP hn h63 (dj _) _ rfl ?_;intro g cap w' k1 k2 k3 k4;obtain⟨yX,p1,p2,p3⟩:=Jb ht kD hO hF hA hd hl sM k1 k2 k3;exact h g cap w' yX p1 p2 p3
theorem n8 {rest:List Oper} (hT:ElemTy P t e size bytes) (kD:P.cellsOf e=size) (zK:o.guard=none) (sl x:Operand)
 (ho:o.op= .call {callee:= .builtin .append,args:=#[sl,x],argTypes:=#[t,t]}) (hs:a.eval sl= .slice A n c) (mC:own P w (.sl xs) t F [.slice A n c])
 (hx:a.eval x= .slice (some ⟨b,0,none⟩) 1 m) (hb:Blk w b te cs) (hd:own P w d e F' cs) (hl:cs.length=size) (sM:(F++F').Nodup) (hn:n+1<=maxLen) (h63:(n+1)*bytes<=140737488355328)
 (h:∀g c' w' yX,own P w' (.sl (xs++[d])) t yX [.slice (some ⟨g,0,none⟩) (n+1) c']->AppF w.heap.size F F' yX->Mod F w w'->wpList P ops Q rest (a.put o.dst (.slice (some ⟨g,0,none⟩) (n+1) c')) w'):
 wpList P ops Q (o::rest) a w:=by
 obtain⟨i,z,ht,hi,hz,i1,i2,i3,i4⟩:=hT.ok;have BC:=mC;rw[own]at BC;obtain⟨e',A',n',c',s,fB,F2,h1,h2,he,hm,hO,hF,hA⟩:=BC;injection he with he;injection he with e1 e2 e3;subst e1 e2 e3
 rw[ht]at h1;injection h1 with h1;injection h1 with h1;subst h1
 rw[kD]at h2;subst h2;refine wpList_append_lies w zK sl x t ho 0 e i z size bytes ht hi hz i1 i2 i3 i4 _ n _ hs hO.2 ⟨b,0,none⟩ 1 m cs hx (by rw[hl,Nat.one_mul]) (World.news_of_block (cs:=cs.toArray) hb) (Rc hd) dP hn h63 (dj _) _ rfl ?_;intro g cap w' k1 k2 k3 k4;obtain⟨yX,p1,p2,p3⟩:=Jb ht kD hO hF hA hd hl sM k1 k2 k3;exact h g cap w' yX p1 p2 p3
end
theorem Fresh.repl {Y Y' Z:List Nat} (h:Fresh B (Y++Z)) (hl:Lo C (Y++Z)) (hB:B<=C) (hF:∀x∈F',C<=x) (hH:C<=H) (ha:AppF H Y F' Y'):Fresh B (Y'++Z):=by
 obtain⟨n1,n2,n3⟩:=aE.1 h.1;have key:∀x∈Y',x∈Y\/C<=x:=λx hx=>by
  rcases ha.2 x hx with h1|h1|h1
  ·exact .inl h1
  ·exact .inr (hF x h1)
  ·exact .inr dP
 refine⟨aE.2 ⟨ha.1,n2,λx hx y hy hxy=>?_⟩,λx hx=>?_⟩
 ·subst hxy;rcases key x hx with h1|h1
  ·exact n3 x h1 x hy rfl
  ·have:=hl x (bD _ hy);omega
 ·rcases aG.1 hx with hx|hx
  ·rcases key x hx with h1|h1
   ·exact h.2 x (bJ _ h1)
   ·omega
  ·exact h.2 x (bD _ hx)
theorem AppF.notin {yX:List Nat} (ha:AppF H F F' yX) (h1:g ∉ F) (h2:∀x∈F',C<=x) (h3:g<C) (h4:g<H):g ∉ yX:=λhm=>by
 rcases ha.2 g hm with h|h|h
 ·exact h1 h
 ·have:=h2 g h;omega
 ·omega
theorem Fresh.sub (h:Fresh B F) (hs:G.Sublist F):Fresh B G:=⟨h.1.sublist hs,λx hx=>h.2 x (hs.subset hx)⟩
theorem Fresh.perm (h:Fresh B F) (hp:F.Perm G):Fresh B G:=⟨hp.nodup h.1,λx hx=>h.2 x (hp.mem_iff.2 hx)⟩
theorem Fresh.tail (h:Fresh B (g::F)):Fresh B F:=⟨(aQ.1 h.1).2,λx hx=>h.2 x (aP _ hx)⟩
theorem Fresh.right (h:Fresh B (F++G)):Fresh B G:=⟨(aE.1 h.1).2.1,λx hx=>h.2 x (bD _ hx)⟩
theorem Fresh.left (h:Fresh B (F++G)):Fresh B F:=⟨(aE.1 h.1).1,λx hx=>h.2 x (bJ _ hx)⟩
theorem Fresh.dis (h:Fresh B (F++G)):∀g∈G,g ∉ F:=λg hg hf=>(aE.1 h.1).2.2 g hf g hg rfl
theorem Blk.c3 {a c:Value} (q:Blk w g t [a,b,c]):w.cell? ⟨g,0,none⟩=some a/\w.cell? ⟨g,1,none⟩=some b/\w.cell? ⟨g,2,none⟩=some c:=⟨q.cell 0,q.cell 1,q.cell 2⟩
theorem Blk.grown {row:Option Nat} (h:Blk w g t cs) (hg:w.grownBy w' row) (hr:row≠some g):Blk w' g t cs:=(hg.block g h.lt (Ne.symm hr)).trans h
theorem Own.dw {enc:α->List Value} {l:List α} (h:Own enc s e w base A n c l):Own enc s e w.drew base A n c l:=h.kept (SQ (A8 _ none)) (by cases A with|none=>exact .inl rfl|some b=>exact .inr (by simp [Value.ownBlock]))
theorem Own.al {enc:α->List Value} {l:List α} (h:Own enc s e w base A n c l):Own enc s e (w.alloc o) base A n c l:=h.alloc o
theorem wX {α:Type} {x:α}:∀{L:List α} {k:Nat},L[k]?=some x->L.Perm (x::L.eraseIdx k)
 |[],_,h=>by simp at h
 |a::t,0,h=>by simp at h;subst h;exact .refl _
 |a::t,k+1,h=>by simp at h;exact((wX h).cons a).trans (.swap _ _ _)
inductive As where
 |bk (g:Nat) (t:TypeId) (cs:List Value)
 |ow (d:D) (t:TypeId) (cs:List Value)
 |fa (p:Prop)
 |oa (xs:List D) (e:TypeId) (css:List (List Value))
 |bx (g:Nat) (d:D) (t:TypeId)
def As.sat (P:Program) (w:World):As->List Nat->Prop
 | .bk g t cs,F=>F=[g]/\Blk w g t cs
 | .ow d t cs,F=>own P w d t F cs
 | .fa p,F=>F=[]/\p
 | .oa xs e css,F=>iv P w xs e F css
 | .bx g d t,F=>∃cs F',F=g::F'/\Blk w g t cs/\own P w d t F' cs
def Sats (P:Program) (w:World):List As->List Nat->Prop
 |[],F=>F=[]
 |x::t,F=>∃F1 F2,F=F1++F2/\x.sat P w F1/\Sats P w t F2
structure Mem (P:Program) (w0:World) (X:List Nat) (w:World) (L:List As):Prop where
 mod:Mod X w0 w
 sats:∃F,Sats P w L F/\F.Nodup/\∀g∈F,g∈X\/w0.heap.size<=g
def lH {α:Type} (L:List α) (k:List Nat):List α:=k.filterMap λi=>L[i]?
section
variable {P:Program} {w0 w w':World} {X F:List Nat} {L M C C' R:List As} {x y:As} {g i:Nat} {t:TypeId} {cs:List Value} {d:D} {u:Value}
theorem JR {p:Addr} (hp:p.block∈F) (u:Value):Mod F w (w.setCell p u):=
 ⟨⟨rfl,rfl,rfl⟩,by simp [World.setCell],λg _ hn=>Below.heap_setCell w p u g (by rintro rfl;exact hn hp)⟩
theorem ab7 (h:x.sat P w F):∀g∈F,g<w.heap.size:=by
 cases x with
 |bk g t cs=>obtain⟨rfl,h⟩:=h;intro y hy;simp at hy;subst hy;exact h.lt
 |ow d t cs=>exact jT d t F cs h
 |fa p=>obtain⟨rfl,h⟩:=h;simp
 |oa xs e css=>exact qF xs e F css h
 |bx g d t=>
  obtain⟨cs,F',rfl,hB,ho⟩:=h;intro y hy;rcases aX.1 hy with rfl|hy
  ·exact hB.lt
  ·exact jT d t F' cs ho y hy
theorem VZ (h:x.sat P w F) (hk:∀g∈F,w'.heap[g]?=w.heap[g]?):x.sat P w' F:=by
 cases x with
 |bk g t cs=>obtain⟨rfl,h⟩:=h;exact⟨rfl,(hk g dR).trans h⟩
 |ow d t cs=>exact nJ d t F cs hk h
 |fa p=>exact h
 |oa xs e css=>exact mI xs e F css hk h
 |bx g d t=>
  obtain⟨cs,F',rfl,hB,ho⟩:=h;exact⟨cs,F',rfl,(hk g dR).trans hB,nJ d t F' cs (λy hy=>hk y eK) ho⟩
theorem wY:∀{L:List As} {F:List Nat},Sats P w L F->∀g∈F,g<w.heap.size
 |[],F,h=>by rw[Sats]at h;subst h;simp
 |x::t,F,h=>by
  rw[Sats]at h;obtain⟨F1,F2,rfl,h1,h2⟩:=h;intro g hg;rcases aG.1 hg with hg|hg
  ·exact ab7 h1 g hg
  ·exact wY h2 g hg
theorem th:∀{L:List As} {F:List Nat},Sats P w L F->(∀g∈F,w'.heap[g]?=w.heap[g]?)->Sats P w' L F
 |[],F,h,_=>by rw[Sats]at h ⊢;exact h
 |x::t,F,h,hk=>by rw[Sats]at h ⊢;obtain⟨F1,F2,rfl,h1,h2⟩:=h;exact⟨F1,F2,rfl,VZ h1 (λg hg=>hk g fe),th h2 (λg hg=>hk g fe)⟩
theorem nL:∀{L M:List As} {F:List Nat},Sats P w (L++M) F↔∃F1 F2,F=F1++F2/\Sats P w L F1/\Sats P w M F2
 |[],M,F=>by
  constructor
  ·intro h;exact⟨[],F,rfl,by rw[Sats],h⟩
  ·rintro⟨F1,F2,rfl,h1,h2⟩;rw[Sats]at h1;subst h1;exact h2
 |x::t,M,F=>by
  rw[cK,Sats];constructor
  ·rintro⟨F1,F2,rfl,h1,h2⟩;obtain⟨G1,G2,rfl,h3,h4⟩:=nL.1 h2;exact⟨F1++G1,G2,by simp,by rw[Sats];exact⟨F1,G1,rfl,h1,h3⟩,h4⟩
  ·rintro⟨F1,F2,rfl,h1,h2⟩;rw[Sats]at h1;obtain⟨G1,G2,rfl,h3,h4⟩:=h1;exact⟨G1,G2++F2,by simp,h3,nL.2 ⟨G2,F2,rfl,h4,h2⟩⟩
theorem SZ (hp:L.Perm M):∀{F:List Nat},Sats P w L F->∃F',F.Perm F'/\Sats P w M F':=by
 induction hp with
 |nil=>exact λh=>⟨_,.refl _,h⟩
 |cons x _ ih=>
  intro F h;rw[Sats]at h;obtain⟨F1,F2,rfl,h1,h2⟩:=h;obtain⟨G,p,h3⟩:=ih h2;exact⟨F1++G,p.append_left _,by rw[Sats];exact⟨F1,G,rfl,h1,h3⟩⟩
 |swap x y l=>
  intro F h;rw[Sats]at h;obtain⟨F1,F2,rfl,h1,h2⟩:=h;rw[Sats]at h2;obtain⟨F3,F4,rfl,h3,h4⟩:=h2;refine⟨F3++(F1++F4),?_,by rw[Sats];exact⟨F3,F1++F4,rfl,h3,by rw[Sats];exact⟨F1,F4,rfl,h1,h4⟩⟩⟩;rw[<-aS,<-aS];exact List.perm_append_comm.append_right _
 |trans _ _ ih1 ih2=>
  intro F h;obtain⟨G,p,h1⟩:=ih1 h;obtain⟨H,q,h2⟩:=ih2 h1;exact⟨H,p.trans q,h2⟩
theorem Mem.perm (h:Mem P w0 X w L) (hp:L.Perm M):Mem P w0 X w M:=by obtain⟨hm,F,h1,h2,h3⟩:=h;obtain⟨G,p,h4⟩:=SZ hp h1;exact⟨hm,G,h4,p.nodup h2,λg hg=>h3 g (p.mem_iff.2 hg)⟩
theorem Mem.pull (h:Mem P w0 X w L) (k:Nat) (hk:L[k]?=some x):Mem P w0 X w (x::L.eraseIdx k):=by exact h.perm (wX hk)
theorem Mem.right (h:Mem P w0 X w (L++M)):Mem P w0 X w M:=by obtain⟨hm,F,h1,h2,h3⟩:=h;obtain⟨F1,F2,rfl,h4,h5⟩:=nL.1 h1;exact⟨hm,F2,h5,(aE.1 h2).2.1,λg hg=>h3 g fe⟩
theorem Mem.left (h:Mem P w0 X w (L++M)):Mem P w0 X w L:=by obtain⟨hm,F,h1,h2,h3⟩:=h;obtain⟨F1,F2,rfl,h4,h5⟩:=nL.1 h1;exact⟨hm,F1,h4,(aE.1 h2).1,λg hg=>h3 g fe⟩
theorem Mem.sel (h:Mem P w0 X w L) (k:List Nat) (hk:k.Nodup):Mem P w0 X w (lH L k):=by
 have h1:L.Perm (lH L k++lH L ((List.range L.length).filter λi=> !k.contains i)):=by
  have h2:lH L (List.range L.length)=L:=by
   unfold lH;refine et λi=>?_;have:(List.range L.length).filterMap (λi=>L[i]?)=L:=by
    have h3:∀n,n<=L.length->(List.range n).filterMap (λi=>L[i]?)=L.take n:=by
     intro n
     induction n with
     |zero=>intro _;rfl
     |succ n ih=>
      intro hn;rw[List.range_succ,dJ,ih dP,List.take_succ_eq_append_getElem dP];simp [show n<L.length by omega]
    rw[h3 _ (af _),cC]
   rw[this]
  have h4:lH L k=lH L (k.filter λi=>decide (i<L.length)):=by
   unfold lH;rw[List.filterMap_filter];congr 1;funext i;by_cases hi:i<L.length
   ·simp [hi]
   ·simp [hi]
  rw[h4];have h5:(List.range L.length).Perm ((k.filter λi=>decide (i<L.length))++(List.range L.length).filter λi=> !k.contains i):=by
   refine(List.perm_ext_iff_of_nodup List.nodup_range (aE.2 ⟨hk.filter _,List.nodup_range.filter _,?_⟩)).2 λi=>?_
   ·intro a ha b hb e;subst e;simp only[cS,cW,cQ,bB]at ha hb;exact hb.2 ha.1
   ·simp only[aG,cS,c_,aL,cW,cQ,bB];constructor
    ·intro hi;by_cases hm:i∈k
     ·exact .inl ⟨hm,hi⟩
     ·exact .inr ⟨hi,hm⟩
    ·rintro(⟨_,h⟩|⟨h,_⟩)<;>exact h
  have h6:=h5.filterMap (λi=>L[i]?);rw[dJ]at h6;have h7:(List.range L.length).filterMap (λi=>L[i]?)=L:=h2;rw[h7]at h6;exact h6
 exact(h.perm h1).left
theorem Mem.drop (h:Mem P w0 X w (x::L)):Mem P w0 X w L:=h.right (L:=[x])
theorem Mem.start:Mem P w X w []:=⟨Mod.refl,[],by rw[Sats],List.nodup_nil,by simp⟩
theorem Mem.step (h:Mem P w0 X w (C++R)) (hs:∀F,Sats P w C F->F.Nodup->∃F',Sats P w' C' F'/\F'.Nodup/\(∀g∈F',g∈F\/w.heap.size<=g)/\Mod F w w'):Mem P w0 X w' (C'++R):=by
 obtain⟨hm,F,h1,h2,h3⟩:=h;obtain⟨F1,F2,rfl,h4,h5⟩:=nL.1 h1;obtain⟨n1,n2,n3⟩:=aE.1 h2;obtain⟨G,k1,k2,k3,k4⟩:=hs F1 h4 n1;have hz:=hm.size;have h6:=wY h5;refine⟨hm.trans k4 (λg hg=>h3 g fe),G++F2,nL.2 ⟨G,F2,rfl,k1,th h5 λg hg=>k4.2.2 g (h6 g hg) (λhf=>n3 g hf g hg rfl)⟩,aE.2 ⟨k2,n2,λa ha b hb e=>?_⟩,λg hg=>?_⟩
 ·subst e;rcases k3 a ha with h7|h7
  ·exact n3 a h7 a hb rfl
  ·have:=h6 a hb;omega
 ·exact F8
theorem Mem.next (h:Mem P w0 X w R) (hb:Below w.heap.size w w'):Mem P w0 X w' R:=
 Mem.step (C:=[]) (C':=[]) h λF hF _=>by rw[Sats]at hF;subst hF;exact⟨[],by rw[Sats],List.nodup_nil,by simp,Mod.of_below hb⟩
theorem Mem.dw (h:Mem P w0 X w R):Mem P w0 X w.drew R:=h.next (Below.refl _ _).drew
theorem Mem.al (h:Mem P w0 X w R) {cs:Array Value}:Mem P w0 X (w.alloc (.cells cs t)) (.bk w.heap.size t cs.toList::R):=
 Mem.step (C:=[]) (C':=[_]) h λF hF _=>by rw[Sats]at hF;subst hF;exact⟨[w.heap.size],by rw[Sats];exact⟨[w.heap.size],[],rfl,⟨rfl,Blk.new_ w t cs⟩,by rw[Sats]⟩,by simp,by simp,Mod.of_below ((Below.refl _ _).alloc (af _) _)⟩
theorem Mem.all (h:Mem P w0 X w R) {l:List Value}:Mem P w0 X (w.alloc (.cells l.toArray t)) (.bk w.heap.size t l::R):=by simpa using h.al (t:=t) (cs:=l.toArray)
theorem Mem.put (h:Mem P w0 X w (.bk g t cs::R)) (i:Nat) (u:Value):Mem P w0 X (w.setCell ⟨g,i,none⟩ u) (.bk g t (cs.set i u)::R):=
 Mem.step (C:=[_]) (C':=[_]) h λF hF hn=>by rw[Sats]at hF;obtain⟨F1,F2,rfl,⟨rfl,h1⟩,h2⟩:=hF;rw[Sats]at h2;subst h2;exact⟨[g],by rw[Sats];exact⟨[g],[],rfl,⟨rfl,h1.set_ i u⟩,by rw[Sats]⟩,by simp,by simp,JR (F:=[g]++[]) dR u⟩
theorem Mem.fact {p:Prop} (h:Mem P w0 X w R) (hp:p):Mem P w0 X w (.fa p::R):=
 Mem.step (C:=[]) (C':=[_]) h λF hF _=>by rw[Sats]at hF;subst hF;exact⟨[],by rw[Sats];exact⟨[],[],rfl,⟨rfl,hp⟩,by rw[Sats]⟩,by simp,by simp,Mod.refl⟩
theorem Mem.gain (h:Mem P w0 X w R) (ho:own P w' d t F cs) (hF:Fresh w.heap.size F) (hb:Below w.heap.size w w'):Mem P w0 X w' (.ow d t cs::R):=
 Mem.step (C:=[]) (C':=[_]) h λG hG _=>by rw[Sats]at hG;subst hG;exact⟨F,by rw[Sats];exact⟨F,[],by simp,ho,by rw[Sats]⟩,hF.1,λg hg=> .inr (hF.2 g hg),Mod.of_below hb⟩
theorem Mem.as (h:Mem P w0 X w (C++R)) (hs:∀F,Sats P w C F->F.Nodup->Sats P w C' F):Mem P w0 X w (C'++R):=
 h.step λF hF hn=>⟨F,hs F hF hn,hn,λg hg=> .inl hg,Mod.refl⟩
theorem Ab:∀{L:List As} {F:List Nat} {x:As},Sats P w L F->x∈L->∃F',x.sat P w F'/\∀g∈F',g∈F
 |[],_,_,_,h=>by simp at h
 |y::t,F,x,h,hx=>by
  rw[Sats]at h;obtain⟨F1,F2,rfl,h1,h2⟩:=h;rcases aX.1 hx with rfl|hx
  ·exact⟨F1,h1,λg hg=>by simp [hg]⟩
  ·obtain⟨F',h3,h4⟩:=Ab h2 hx;exact⟨F',h3,λg hg=>by simp [h4 g hg]⟩
theorem Mem.blk (h:Mem P w0 X w L) (hx: .bk g t cs∈L):Blk w g t cs:=by obtain⟨hm,F,h1,h2,h3⟩:=h;obtain⟨F',⟨rfl,h4⟩,_⟩:=Ab h1 hx;exact h4
theorem Mem.bl (h:Mem P w0 X w L) (k:Nat) (hk:L[k]?=some (.bk g t cs)):Blk w g t cs:=h.blk (aA hk)
theorem Mem.rp (h:Mem P w0 X w L) (k:Nat) (hk:L[k]?=some (.ow d t cs)):Go.Proofs.YtekcpadlmfaihaaGreat.rep w w.heap.size d cs:=by obtain⟨hm,F,h1,h2,h3⟩:=h;obtain⟨F',h4,_⟩:=Ab h1 (aA hk);exact eW _ _ _ _ h4
theorem Mem.ge (h:Mem P w0 [] w L) (hx: .bk g t cs∈L):w0.heap.size<=g:=by
 obtain⟨hm,F,h1,h2,h3⟩:=h;obtain⟨F',⟨rfl,h4⟩,h5⟩:=Ab h1 hx;rcases h3 g (h5 g dR) with h6|h6
 ·simp at h6
 ·exact h6
theorem Mem.prop {p:Prop} (h:Mem P w0 X w L) (hx: .fa p∈L):p:=by obtain⟨hm,F,h1,h2,h3⟩:=h;obtain⟨F',⟨rfl,h4⟩,_⟩:=Ab h1 hx;exact h4
theorem Mem.own_ (h:Mem P w0 X w L) (hx: .ow d t cs∈L):∃F,own P w d t F cs:=by obtain⟨hm,F,h1,h2,h3⟩:=h;obtain⟨F',h4,_⟩:=Ab h1 hx;exact⟨F',h4⟩
theorem Mem.rep (h:Mem P w0 X w L) (hx: .ow d t cs∈L):rep w w.heap.size d cs:=by obtain⟨F,h⟩:=h.own_ hx;exact eW _ _ _ _ h
theorem Mem.bel (h:Mem P w0 [] w L):Below w0.heap.size w0 w:=h.mod.below dR (af _)
theorem Mem.old (h:Mem P w0 X w L) {B:Nat} (hX:∀g∈X,B<=g) (hB:B<=w0.heap.size) (hr:Go.Proofs.YtekcpadlmfaihaaGreat.rep w0 B d cs):Go.Proofs.YtekcpadlmfaihaaGreat.rep w w.heap.size d cs:=
 fb hr (h.mod.below hX hB) (du hB h.mod.size)
theorem Mem.arg (h:Mem P w0 [] w L) (hr:Go.Proofs.YtekcpadlmfaihaaGreat.rep w0 w0.heap.size d cs):Go.Proofs.YtekcpadlmfaihaaGreat.rep w w.heap.size d cs:=h.old dR (af _) hr
theorem Mem.two {g':Nat} {t':TypeId} {cs':List Value} (h:Mem P w0 X w (.bk g t cs:: .bk g' t' cs'::R)):g≠g':=by obtain⟨hm,F,h1,h2,h3⟩:=h;rw[Sats]at h1;obtain⟨F1,F2,rfl,⟨rfl,_⟩,h5⟩:=h1;rw[Sats]at h5;obtain⟨F3,F4,rfl,⟨rfl,_⟩,_⟩:=h5;intro e;simp [e]at h2
theorem Mem.fin (h:Mem P w0 [] w (.ow d t cs::R)):∃F,own P w d t F cs/\Fresh w0.heap.size F/\Below w0.heap.size w0 w:=by have hb:=h.bel;obtain⟨hm,F,h1,h2,h3⟩:=h;rw[Sats]at h1;obtain⟨F1,F2,rfl,h4,h5⟩:=h1;exact⟨F1,h4,⟨(aE.1 h2).1,λg hg=>by rcases h3 g fe with h6|h6;simp at h6;exact h6⟩,hb⟩
end
section
variable {w0 w w':World} {X:List Nat} {R:List As} {d:D} {t:TypeId} {e:Ending}
theorem Mem.newSt (h:Mem prog w0 X w R) (hn:gM d t w e w'):∃cs:List Value,e= .returned (.agg cs.toArray)/\Mem prog w0 X w' (.ow d t cs::R):=by obtain⟨cs,F,rfl,ho,hf,hb⟩:=hn;exact⟨cs,rfl,h.gain ho hf hb⟩
theorem Mem.newSl {xs:List D} (h:Mem prog w0 X w R) (hn:oK xs t w e w'):∃(A:Option Addr) (n c:Nat),e= .returned (.slice A n c)/\Mem prog w0 X w' (.ow (.sl xs) t [.slice A n c]::R):=by obtain⟨A,n,c,F,rfl,ho,hf,hb⟩:=hn;exact⟨A,n,c,rfl,h.gain ho hf hb⟩
theorem Mem.retSt {cs:List Value} (h:Mem prog w0 [] w (.ow d t cs::R)):gM d t w0 (.returned (.agg cs.toArray)) w:=by obtain⟨F,h1,h2,h3⟩:=h.fin;exact⟨cs,F,rfl,h1,h2,h3⟩
theorem Mem.retSl {xs:List D} {A:Option Addr} {n c:Nat} (h:Mem prog w0 [] w (.ow (.sl xs) t [.slice A n c]::R)):oK xs t w0 (.returned (.slice A n c)) w:=by obtain⟨F,h1,h2,h3⟩:=h.fin;exact⟨A,n,c,F,rfl,h1,h2,h3⟩
end
theorem rZ (w:World) (base:Nat) (t ty e:TypeId) (i:TypeInfo) (size:Nat) (ht:P.underlying t=some (.slice e)) (hi:P.info? e=some i)
 (v:Value) (n:Nat) (xs:List Value) (mC:w.ownsRow base e size v n xs) (c:Nat):(Builtin.append_ #[t,t] ty #[v,.slice none 0 c]).run P w= .ok v w:=by
 rcases mC.2 with ⟨rfl,rfl⟩|⟨g,cap,pq,rfl,_,_,Nh,_⟩
 ·simp [Builtin.append_,run_underlying ht,sizeOf,typeInfo,hi,Builtin.lenOf,Builtin.firstCells]
 ·simp [Builtin.append_,run_underlying ht,sizeOf,typeInfo,hi,Builtin.lenOf,Builtin.firstCells,Nh,storeCells]
theorem xG (enc:α->List Value){size:Nat} (hT:ElemTy P t e size bytes) (mB:∀x,(enc x).length=size) (hone:∀x,∀u∈enc x,u.oneCell'=true)
 {ops:Array Oper} {rest:List Oper} {o:Oper} {a:Act} {Q:Exit->Act->World->Prop} {w:World} (zK:o.guard=none) (sl x:Operand)
 (ho:o.op= .call {callee:= .builtin .append,args:=#[sl,x],argTypes:=#[t,t]})
 (base:Nat) (A:Option Addr) (n c:Nat) (l:List α) (hs:a.eval sl= .slice A n c) (mC:Own enc size e w base A n c l)
 (A2:Option Addr) (m c2 B:Nat) (l2:List α) (hx:a.eval x= .slice A2 m c2) (hr:Reads enc size w B A2 m l2)
 (h63:(n+m)*bytes<=140737488355328) (hn:n+m<=maxLen) (DC:base<=w.heap.size)
 (h:∀A' c' w',Own enc size e w' base A' (n+m) c' (l++l2)->w.grownBy w' (Value.slice A n c).ownBlock->Below base w w'->wpList P ops Q rest (a.put o.dst (.slice A' (n+m) c')) w'):wpList P ops Q (o::rest) a w:=by
 obtain⟨i,z,ht,hi,hz,h1,h2,h3,h4⟩:=hT.ok;have hlt:=mC.2.lt;have key:∃v' w',(Builtin.append_ #[t,t] o.type #[.slice A n c,.slice A2 m c2]).run P w= .ok v' w'/\w'.ownsRow base e size v' (n+m) ((l++l2).flatMap enc)/\w.grownBy w' (Value.slice A n c).ownBlock:=by
  rcases A2 with _|ad
  ·have hm:m=0:=FU;subst hm;have xf:l2=[]:=List.eq_nil_of_length_eq_zero hr.1;subst xf;exact⟨_,w,rZ w base t o.type e i size ht hi _ n _ mC.2 c2,by simpa using mC.2,World.grownBy.refl w _⟩
  ·have px:∀j u,(l2.flatMap enc)[j]?=some u->w.cell? (ad.add j)=some u:=GZ;obtain⟨v',w',Pz,h5,h6,_⟩:=run_append_own_at (P:=P) w base t o.type e i z size bytes ht hi hz h1 h2 h3 h4 _ n _ mC.2 ad m c2 (l2.flatMap enc) (by rw[gN mB,hr.1]) px
    BK hn h63 DC
   exact⟨v',w',Pz,by rw[cj];exact h5,h6⟩
 obtain⟨v',w',Pz,h5,h6⟩:=key;have hb:Below base w w':=(Below.refl _ _).grown h6 DC (λk hk=>(hlt k hk).1);have kO:(l++l2).length=n+m:=by rw[aY,mC.1,hr.1]
 have Ut:∃A' c',v'= .slice A' (n+m) c':=by
  rcases h5.2 with ⟨h9,h10⟩|⟨g,cap,pq,h9,_⟩
  ·exact⟨none,0,by rw[h9,h10]⟩
  ·exact⟨_,_,h9⟩
 obtain⟨A',c',rfl⟩:=Ut;refine wpList_plain zK λK hK=>?_;unfold Oper.wp execOp;simp only[ho,resolve,invoke,builtin,Sem.run_bind,Sem.run_pure,Result.andThen_ok,List.map_toArray,br,bL,hs,hx,Pz];exact hK _ _ (h A' c' w' ⟨kO,h5⟩ h6 hb)
theorem pQ (x:Item):x.toD= .st [.i .i64 x.num,.i .i64 x.den,.s x.text]:=qf
theorem qH {x:Item} (h:rep w B x.toD cs):∃(_:Unit),cs=[.int .i64 x.num,.int .i64 x.den,sv x.text]/\(Lit.int .i64 x.num).wf=true/\(Lit.int .i64 x.den).wf=true/\x.text.length<=maxLen:=by rw[pQ,rep]at h;obtain⟨css,rfl,h⟩:=h;rw[gb]at h;obtain⟨c0,css,rfl,k0,h⟩:=h;rw[gb]at h;obtain⟨c1,css,rfl,k1,h⟩:=h;rw[gb]at h;obtain⟨c2,css,rfl,k2,h⟩:=h;rw[gb]at h;subst h;rw[rep]at k0;obtain⟨rfl,k0⟩:=k0;rw[rep]at k1;obtain⟨rfl,k1⟩:=k1;rw[rep]at k2;obtain⟨rfl,k2⟩:=k2;exact⟨(),rfl,k0,k1,k2⟩
theorem uR {x:Item} (Wb:(Lit.int .i64 x.num).wf=true) (V_:(Lit.int .i64 x.den).wf=true) (Kk:x.text.length<=maxLen):own prog w x.toD 135 ([]) [x.num,x.den,sv x.text]:=by rw[pQ,own];exact⟨_,[[.int .i64 x.num],[.int .i64 x.den],[sv x.text]],underlying135,rfl,(fg (F1:=[]) (by rw[own];exact⟨rfl,rfl,Wb⟩) (fg (F1:=[]) (by rw[own];exact⟨rfl,rfl,V_⟩) (fg (F1:=[]) (by rw[own];exact⟨rfl,rfl,Kk⟩) p_)))⟩
theorem pK {l:List Item} (h:rep w B (.sl (l.map Item.toD)) [.slice A n c]) (hk:k<n):
 ∃(b off:Nat) (x:Item),A=some ⟨b,off,none⟩/\b<B/\l[k]?=some x/\rep w B x.toD [x.num,x.den,sv x.text]/\w.cell? ⟨b,off+k*3,none⟩=some (.int .i64 x.num)/\w.cell? ⟨b,off+k*3+1,none⟩=some (.int .i64 x.den)/\w.cell? ⟨b,off+k*3+2,none⟩=some (sv x.text):=by
 obtain⟨b,off,x,cs,e,hb,hx,hr,hc⟩:=Rp h hk;obtain⟨_,rfl,_⟩:=qH hr;exact⟨b,off,x,e,hb,hx,hr,hc 0 _ rfl,hc 1 _ rfl,hc 2 _ rfl⟩
theorem Qw (x:Item):szD x.toD=x.text.length:=by rw[pQ];simp only[szD,gv];omega
theorem Mr:(prog.info? 135).map (λi=>(i.zero,i.size,i.bytes))=some (some (.agg #[.int .i64 0,.int .i64 0,sv []]),3,32):=dU
theorem kF (x:Vec):x.toD= .st [.i .i64 x.kind,.sl (x.items.map Item.toD),.sl (x.parts.map Vec.toD),.sl (x.names.map .s),.sl (x.cls.map .s),.sl (x.levels.map .s),.i .i64 x.code,.i .i64 x.env]:=qf
theorem fw {x:Vec} (h:rep w B x.toD cs):∃(hD:Option Addr) (hZ:Nat) (hE:Nat) (fj:Option Addr) (fq:Nat) (fm:Nat) (fU:Option Addr) (fW:Nat) (fV:Nat) (mv:Option Addr) (mH:Nat) (mz:Nat) (gm:Option Addr) (gu:Nat) (gr:Nat),cs=[.int .i64 x.kind,.slice hD hZ hE,.slice fj fq fm,.slice fU fW fV,.slice mv mH mz,.slice gm gu gr,.int .i64 x.code,.int .i64 x.env]/\(Lit.int .i64 x.kind).wf=true/\rep w B (.sl (x.items.map Item.toD)) [.slice hD hZ hE]/\rep w B (.sl (x.parts.map Vec.toD)) [.slice fj fq fm]/\rep w B (.sl (x.names.map .s)) [.slice fU fW fV]/\rep w B (.sl (x.cls.map .s)) [.slice mv mH mz]/\rep w B (.sl (x.levels.map .s)) [.slice gm gu gr]/\(Lit.int .i64 x.code).wf=true/\(Lit.int .i64 x.env).wf=true:=by rw[kF,rep]at h;obtain⟨css,rfl,h⟩:=h;rw[gb]at h;obtain⟨c0,css,rfl,k0,h⟩:=h;rw[gb]at h;obtain⟨c1,css,rfl,k1,h⟩:=h;rw[gb]at h;obtain⟨c2,css,rfl,k2,h⟩:=h;rw[gb]at h;obtain⟨c3,css,rfl,k3,h⟩:=h;rw[gb]at h;obtain⟨c4,css,rfl,k4,h⟩:=h;rw[gb]at h;obtain⟨c5,css,rfl,k5,h⟩:=h;rw[gb]at h;obtain⟨c6,css,rfl,k6,h⟩:=h;rw[gb]at h;obtain⟨c7,css,rfl,k7,h⟩:=h;rw[gb]at h;subst h;rw[rep]at k0;obtain⟨rfl,k0⟩:=k0;obtain⟨A1,n1,d1,rfl⟩:=fD k1;obtain⟨A2,n2,d2,rfl⟩:=fD k2;obtain⟨A3,n3,d3,rfl⟩:=fD k3;obtain⟨A4,n4,d4,rfl⟩:=fD k4;obtain⟨A5,n5,d5,rfl⟩:=fD k5;rw[rep]at k6;obtain⟨rfl,k6⟩:=k6;rw[rep]at k7;obtain⟨rfl,k7⟩:=k7;exact⟨A1,n1,d1,A2,n2,d2,A3,n3,d3,A4,n4,d4,A5,n5,d5,rfl,k0,k1,k2,k3,k4,k5,k6,k7⟩
theorem uU {x:Vec} (tu:(Lit.int .i64 x.kind).wf=true) (rA:rep w B (.sl (x.items.map Item.toD)) [.slice hD hZ hE]) (kL:rep w B (.sl (x.parts.map Vec.toD)) [.slice fj fq fm]) (lu:rep w B (.sl (x.names.map .s)) [.slice fU fW fV]) (EH:rep w B (.sl (x.cls.map .s)) [.slice mv mH mz]) (pf:rep w B (.sl (x.levels.map .s)) [.slice gm gu gr]) (xF:(Lit.int .i64 x.code).wf=true) (I9:(Lit.int .i64 x.env).wf=true):rep w B x.toD [x.kind,.slice hD hZ hE,.slice fj fq fm,.slice fU fW fV,.slice mv mH mz,.slice gm gu gr,x.code,x.env]:=by rw[kF,rep];exact⟨[[.int .i64 x.kind],[.slice hD hZ hE],[.slice fj fq fm],[.slice fU fW fV],[.slice mv mH mz],[.slice gm gu gr],[.int .i64 x.code],[.int .i64 x.env]],rfl,jW.2 ⟨by rw[rep];exact⟨rfl,tu⟩,jW.2 ⟨rA,jW.2 ⟨kL,jW.2 ⟨lu,jW.2 ⟨EH,jW.2 ⟨pf,jW.2 ⟨by rw[rep];exact⟨rfl,xF⟩,jW.2 ⟨by rw[rep];exact⟨rfl,I9⟩,EO⟩⟩⟩⟩⟩⟩⟩⟩⟩
theorem jD {x:Vec} {Fitems Fparts Fnames Fcls Flevels:List Nat} (tu:(Lit.int .i64 x.kind).wf=true) (rA:own prog w (.sl (x.items.map Item.toD)) 35 Fitems [.slice hD hZ hE]) (kL:own prog w (.sl (x.parts.map Vec.toD)) 36 Fparts [.slice fj fq fm]) (lu:own prog w (.sl (x.names.map .s)) 25 Fnames [.slice fU fW fV]) (EH:own prog w (.sl (x.cls.map .s)) 25 Fcls [.slice mv mH mz]) (pf:own prog w (.sl (x.levels.map .s)) 25 Flevels [.slice gm gu gr]) (xF:(Lit.int .i64 x.code).wf=true) (I9:(Lit.int .i64 x.env).wf=true):own prog w x.toD 38 (Fitems++(Fparts++(Fnames++(Fcls++(Flevels++[]))))) [x.kind,.slice hD hZ hE,.slice fj fq fm,.slice fU fW fV,.slice mv mH mz,.slice gm gu gr,x.code,x.env]:=by rw[kF,own];exact⟨_,[[.int .i64 x.kind],[.slice hD hZ hE],[.slice fj fq fm],[.slice fU fW fV],[.slice mv mH mz],[.slice gm gu gr],[.int .i64 x.code],[.int .i64 x.env]],underlying38,rfl,(fg (F1:=[]) (by rw[own];exact⟨rfl,rfl,tu⟩) (fg rA (fg kL (fg lu (fg EH (fg pf (fg (F1:=[]) (by rw[own];exact⟨rfl,rfl,xF⟩) (fg (F1:=[]) (by rw[own];exact⟨rfl,rfl,I9⟩) p_))))))))⟩
theorem my {l:List Vec} (h:rep w B (.sl (l.map Vec.toD)) [.slice A n c]) (hk:k<n):
 ∃(b off:Nat) (x:Vec) (hD:Option Addr) (hZ:Nat) (hE:Nat) (fj:Option Addr) (fq:Nat) (fm:Nat) (fU:Option Addr) (fW:Nat) (fV:Nat) (mv:Option Addr) (mH:Nat) (mz:Nat) (gm:Option Addr) (gu:Nat) (gr:Nat),A=some ⟨b,off,none⟩/\b<B/\l[k]?=some x/\rep w B x.toD [x.kind,.slice hD hZ hE,.slice fj fq fm,.slice fU fW fV,.slice mv mH mz,.slice gm gu gr,x.code,x.env]/\w.cell? ⟨b,off+k*8,none⟩=some (.int .i64 x.kind)/\w.cell? ⟨b,off+k*8+1,none⟩=some (.slice hD hZ hE)/\w.cell? ⟨b,off+k*8+2,none⟩=some (.slice fj fq fm)/\w.cell? ⟨b,off+k*8+3,none⟩=some (.slice fU fW fV)/\w.cell? ⟨b,off+k*8+4,none⟩=some (.slice mv mH mz)/\w.cell? ⟨b,off+k*8+5,none⟩=some (.slice gm gu gr)/\w.cell? ⟨b,off+k*8+6,none⟩=some (.int .i64 x.code)/\w.cell? ⟨b,off+k*8+7,none⟩=some (.int .i64 x.env):=by
 obtain⟨b,off,x,cs,e,hb,hx,hr,hc⟩:=Rp h hk;obtain⟨hD,hZ,hE,fj,fq,fm,fU,fW,fV,mv,mH,mz,gm,gu,gr,rfl,_⟩:=fw hr;exact⟨b,off,x,hD,hZ,hE,fj,fq,fm,fU,fW,fV,mv,mH,mz,gm,gu,gr,e,hb,hx,hr,hc 0 _ rfl,hc 1 _ rfl,hc 2 _ rfl,hc 3 _ rfl,hc 4 _ rfl,hc 5 _ rfl,hc 6 _ rfl,hc 7 _ rfl⟩
theorem iH {P:Vec->Prop} (h:∀v,(∀y∈v.parts,P y)->P v):∀v,P v:=by
 have key:∀(n:Nat) (v:Vec),SizeOf.sizeOf v<=n->P v:=by
  intro n
  induction n with
  |zero=>intro v hv;cases v;simp at hv
  |succ n ih=>
   intro v hv;refine h v λy hy=>ih y ?_;cases v;have h1:=List.sizeOf_lt_of_mem hy;simp at hv h1;omega
 exact λv=>key _ v (af _)
theorem go (x:Vec):szD x.toD=szD (.sl (x.items.map Item.toD))+(szD (.sl (x.parts.map Vec.toD))+(szD (.sl (x.names.map .s))+(szD (.sl (x.cls.map .s))+(szD (.sl (x.levels.map .s)))))):=by rw[kF];simp only[szD,gv];omega
theorem De:(prog.info? 38).map (λi=>(i.zero,i.size,i.bytes))=some (some (.agg #[.int .i64 0,(),(),(),(),(),.int .i64 0,.int .i64 0]),8,144):=dU
abbrev Me (x:Item):Value:= .agg #[x.num,x.den,sv x.text]
theorem MS (x y:Nat):Nat.gcd y (x % y)=Nat.gcd x y:=by rw[Nat.gcd_comm y (x % y),<-Nat.gcd_rec,Nat.gcd_comm]
theorem QL (a b:Int) (w:World) (ha: -9223372036854775807<=a) (ha':a<=9223372036854775807) (hb: -9223372036854775807<=b) (Tv:b<=9223372036854775807):
 Calls prog 162 #[a,b] w λe w'=>e= .returned (.int .i64 (Nat.gcd a.natAbs b.natAbs:Nat))/\Below w.heap.size w w':=by
 go_enter func162,ntmps162;go_wp2_with fail;all_goals
  go_loopw [0,1] (λu v wr=>∃x y:Nat,u= .int .i64 x/\v= .int .i64 y/\(x:Int)<=9223372036854775807/\(y:Int)<=9223372036854775807/\Nat.gcd x y=Nat.gcd a.natAbs b.natAbs/\Below w.heap.size w wr) (λ_ v _=>(intOf v).toNat)
  case atStart=>exact⟨a.natAbs,b.natAbs,by congr 1;omega,by congr 1;omega,by omega,by omega,rfl,Below.refl _ _⟩
  case round=>
   obtain⟨x,y,rfl,rfl,hx,hy,hg,gD⟩:=hrel;have HG:=aa hg;clear hg;rcases bz y with h0|h0
   ·exact GP
   ·have jC:((y:Int) != 0)=true:=dS;have hm:(x:Int).tmod (y:Int)=((x % y:Nat):Int):=by rw[Int.tmod_eq_emod_of_nonneg dP];rfl
    have hlt:x % y<y:=Nat.mod_lt _ h0;go_wp2_with fail;go_region;all_goals
     go_wp2_with fail;go_roundw
     case rel=>exact⟨y,x % y,by go_num,by go_num,by omega,by omega,by rw[MS];exact HG.out,gD.drew⟩
     case measure=>simp [intOf];omega
theorem JL (a:Int) (w:World) (ha: -9223372036854775807<=a) (ha':a<=9223372036854775807):
 Calls prog 179 #[a] w λe w'=>e= .returned (.int .i64 (a.natAbs:Nat))/\w=w':=by
 go_enter func179,ntmps179;go_wp2_with fail;all_goals (go_ret;exact⟨eZ dP,rfl⟩)
theorem JM (a b:Int) (w:World) (ha: -9223372036854775807<=a) (ha':a<=9223372036854775807) (hb: -9223372036854775807<=b) (Tv:b<=9223372036854775807):
 Calls prog 169 #[a,b] w λe w'=>e= .returned (.int .i64 (Nat.gcd a.natAbs b.natAbs:Nat))/\Below w.heap.size w w':=by
 go_enter func169,ntmps169;go_wp2_with fail;refine(JL a _ ha ha').mono ?_;rintro e w1 ⟨rfl,rfl⟩;go_wp2_with fail;refine(JL b _ hb Tv).mono ?_;rintro e w1 ⟨rfl,rfl⟩;go_wp2_with fail;go_loopw [5,6] (λu v wr=>∃x y:Nat,u= .int .i64 x/\v= .int .i64 y/\(x:Int)<=9223372036854775807/\(y:Int)<=9223372036854775807/\Nat.gcd x y=Nat.gcd a.natAbs b.natAbs/\Below w.heap.size w wr) (λ_ v _=>(intOf v).toNat)
 case atStart=>exact⟨a.natAbs,b.natAbs,rfl,rfl,by omega,by omega,rfl,Below.refl _ _⟩
 case round=>
  obtain⟨x,y,rfl,rfl,hx,hy,hg,gD⟩:=hrel;have HG:=aa hg;clear hg;rcases bz y with h0|h0
  ·exact GP
  ·have jC:((y:Int) != 0)=true:=dS;have hlt:x % y<y:=Nat.mod_lt _ h0;go_wp2_with fail;go_roundw
   case rel=>exact⟨y,x % y,by go_num,by go_num,by omega,by omega,by rw[MS];exact HG.out,gD⟩
   case measure=>simp [intOf];omega
def nZ (x:Item):Bool:=x.text.isEmpty&&decide (1<=x.den/\x.den<=999999999)&&decide (-999999999<=x.num/\x.num<=999999999)&&(Nat.gcd x.num.natAbs x.den.natAbs==1)
theorem pA (x:Item) (w:World):Calls prog 163 #[Me x] w λe w'=>e= .returned (.bool (nZ x))/\Below w.heap.size w w':=by
 go_enter func163,ntmps163;go_wp2_with (go_at_call 162;((with_reducible refine(QL _ _ _ dP dP dP dP).mono ?_);rintro e w1 ⟨rfl,hb1⟩));all_goals (go_ret;refine⟨dZ ?_,by first|exact(Below.refl _ _).alloc (af _) _|exact ij ((Below.refl _ _).alloc (af _) _) hb1⟩)
 all_goals (rw[nZ,eq_comm,bg];simp [*]<;>omega)
theorem tj (x:Item) (w:World):Calls prog 190 #[Me x] w λe w'=>e= .returned (.bool (nZ x))/\Below w.heap.size w w':=by
 go_enter func190,ntmps190;go_wp2_with (first|(go_at_call 68;((with_reducible refine(gj _ _ _ _).mono ?_);rintro e w1 ⟨rfl,rfl⟩))|(go_at_call 169;((with_reducible refine(JM _ _ _ dP dP dP dP).mono ?_);rintro e w1 ⟨rfl,hb1⟩)));all_goals (go_ret;refine⟨dZ ?_,by first|exact(Below.refl _ _).alloc (af _) _|exact ij ((Below.refl _ _).alloc (af _) _) hb1⟩)
 all_goals (rw[nZ,eq_comm,bg];simp [*]<;>omega)
def eI (x:Item):Bool:=x==⟨0,0,[]⟩
theorem kJ (x:Item) (w:World):Calls prog 156 #[Me x] w λe w'=>e= .returned (.bool (eI x))/\Below w.heap.size w w':=by go_enter func156,ntmps156;go_wp2_with fail;all_goals (go_ret;refine⟨dZ ?_,(Below.refl _ _).alloc (af _) _⟩;cases x;simp [eI];simp_all)
def ja (n:Int):Str:=if n=0 then[48] else if n<0 then 45::xM n.natAbs n.natAbs [] else xM n.natAbs n.natAbs []
theorem Bv (d:Nat) (h:d<10):(List.drop d [48,49,50,51,52,53,54,55,56,57]).take 1=[(48:UInt8)+UInt8.ofNat d]:=by have:∀d:Fin 10,(List.drop d.val [48,49,50,51,52,53,54,55,56,57]).take 1=[(48:UInt8)+UInt8.ofNat d.val]:=dQ;exact this ⟨d,h⟩
theorem pj (n:Int) (w:World) (h0: -9223372036854775808<=n) (h1:n<=9223372036854775807):
 Calls prog 192 #[n] w λe w'=>e= .returned (sv (ja n))/\w=w':=by
 go_enter func192,ntmps192;go_wp2;go_loop [3,4] (λv i=>∃(x:Int) (s:Str),i= .int .i64 x/\v=sv s/\x.natAbs+2*s.length<=n.natAbs+1/\(x≠0->x.natAbs+2*s.length<=n.natAbs)/\xM n.natAbs n.natAbs []=xM x.natAbs x.natAbs s/\ -9223372036854775808<=x/\x<=9223372036854775807) (λ_ i=>(intOf i).natAbs)
 case atStart=>exact⟨n,[],rfl,rfl,by simp,by simp,rfl,h0,h1⟩
 case round=>
  obtain⟨x,s,rfl,rfl,hl,hl',Zx,hx0,qM⟩:=hrel;have TB:s.length<=4611686018427387905:=dP;have HD:=aa Zx;clear Zx;by_cases hx:x=0
  ·subst hx;by_cases hn:n=0
   ·subst hn;go_wp2;go_ret;exact⟨rfl,rfl⟩
   ·have hnb:(n==0)=false:=by simpa using hn
    go_wp2
    ·go_ret;exact⟨mK (by rw[ja,aH hn,aN dP,HD.out];rfl),rfl⟩
    ·go_ret;exact⟨mK (by rw[ja,aH hn,aH dP,HD.out];rfl),rfl⟩
  ·have hnb:(x != 0)=true:=oh;have xf:=hl' hx;clear hl';have e1:(x.tmod 10).natAbs=x.natAbs % 10:=by rw[Int.natAbs_tmod];rfl
   have e2:(x.tdiv 10).natAbs=x.natAbs/10:=by rw[Int.natAbs_tdiv];rfl
   have b1: -9<=x.tmod 10:=dP;have b2:x.tmod 10<=9:=dP;have b3: -9223372036854775808<=x.tdiv 10/\x.tdiv 10<=9223372036854775807:=dP;have b4:x.tdiv 10=0->x.natAbs<10:=dP;have HS:=aa (Du x.natAbs s dP);by_cases hneg:x.tmod 10<0
   ·have R_:(List.drop (-x.tmod 10).toNat [48,49,50,51,52,53,54,55,56,57]).take 1=[(48:UInt8)+UInt8.ofNat (x.natAbs % 10)]:=by rw[Bv _ dP];have:(-x.tmod 10).toNat=x.natAbs % 10:=dP;rw[this]
    have E1:=aa e1;have E2:=aa e2;have B4:=aa b4;have HDI:=aa R_;clear e1 e2 b4 R_;go_wp2;have ht:(-x.tmod 10+1).toNat - (-x.tmod 10).toNat=1:=dP;rw[ht,HDI.out];have e2:=E2.out;have b4:=B4.out;clear ht;go_round
    case rel=>exact⟨x.tdiv 10,(48+UInt8.ofNat (x.natAbs % 10))::s,rfl,rfl,by rw[bU];omega,by rw[bU];omega,by rw[HD.out,HS.out,e2],b3.1,b3.2⟩
    case measure=>simp only[intOf];omega
   ·have R_:(List.drop (x.tmod 10).toNat [48,49,50,51,52,53,54,55,56,57]).take 1=[(48:UInt8)+UInt8.ofNat (x.natAbs % 10)]:=by rw[Bv _ dP];have:(x.tmod 10).toNat=x.natAbs % 10:=dP;rw[this]
    have E1:=aa e1;have E2:=aa e2;have B4:=aa b4;have HDI:=aa R_;clear e1 e2 b4 R_;go_wp2;have ht:(x.tmod 10+1).toNat - (x.tmod 10).toNat=1:=dP;rw[ht,HDI.out];have e2:=E2.out;have b4:=B4.out;clear ht;go_round
    case rel=>exact⟨x.tdiv 10,(48+UInt8.ofNat (x.natAbs % 10))::s,rfl,rfl,by rw[bU];omega,by rw[bU];omega,by rw[HD.out,HS.out,e2],b3.1,b3.2⟩
    case measure=>simp only[intOf];omega
end Go.Proofs.YtekcpadlmfaihaaGreat
