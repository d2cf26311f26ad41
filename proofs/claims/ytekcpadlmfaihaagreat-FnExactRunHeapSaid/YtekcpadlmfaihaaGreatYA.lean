/- Words for memory that the walks of this family share: a slice that reads as a list of data, each datum some cells; strings as lists of bytes. No conditions. -/
import Derived.Test.YtekcpadlmfaihaaGreatYWd
import Derived.Test.YtekcpadlmfaihaaGreatRows
import Derived.WalkKit
import Derived.WalkSpells
import Derived.WalkLawsBesides
import Derived.Lib.Hide
import Derived.Lib.Strings
import Derived.Below
import Derived.Laws.OwnMore
import Derived.Deep.AppendLies
import Derived.Deep.Draws
import Derived.Deep.QuietTactic
import Derived.BigQuiet
import Derived.Laws.MakeOwn
import Derived.Maps.AppendAt
import Derived.Deep.RegionHeld3
import Derived.Deep.LoopGhost
import Derived.StillTailTactics
import Derived.IntWalk
import Derived.Laws.BitsAllLaws
import Derived.Laws.BytesArg
import Derived.Deep.DeepCutAuto
namespace Go.Proofs.YtekcpadlmfaihaaGreat
open Go.RowKit Proofs.Tryz
set_option maxHeartbeats 8000000
set_option maxRecDepth 100000
set_option linter.unusedSimpArgs false
set_option linter.unusedVariables false
variable {p:Addr} {y:Int} {cs:List Value} {B base c fV fW fm fq g gr gu hE hZ k mH mz n s:Nat} {A fU fj gm hD mv:Option Addr} {P:Program} {α:Type} {e t:TypeId} {a b w w':World}
abbrev Str:=List UInt8
abbrev sv (s:Str):Value:= .string ⟨s.toArray⟩
@[go_sem] theorem Z0 (s:List UInt8) (a b:Nat):(⟨s.toArray⟩:ByteArray).extract a b=⟨((s.drop a).take (b - a)).toArray⟩:=by rw[Lib.extract_eq]
@[go_sem] theorem ab9 (a b:List UInt8):(⟨a.toArray⟩:ByteArray)++⟨b.toArray⟩=⟨(a++b).toArray⟩:=ByteArray.mk_append_mk a b
@[go_sem] theorem afK (s:List UInt8) (i:Nat) (h:i<(⟨s.toArray⟩:ByteArray).size):(⟨s.toArray⟩:ByteArray)[i]=s[i]'h:=rfl
theorem YS (b:ByteArray):∃s:Str,b=⟨s.toArray⟩:=⟨b.data.toList,by cases b;simp⟩
theorem eZ {k:IntKind} {a b:Int} (h:a=b):Ending.returned (.int k a)= .returned (.int k b):=by rw[h]
theorem dZ {a b:Bool} (h:a=b):Ending.returned (.bool a)= .returned (.bool b):=by rw[h]
theorem mK {a b:Str} (h:a=b):Ending.returned (sv a)= .returned (sv b):=by rw[h]
theorem pS (h:Below B a w) (n:Nat):Below B a (w.drewN n):=⟨h.os,h.tape,h.output,h.size,h.block⟩
theorem ij {c:World} (h:Below a.heap.size a b) (k:Below b.heap.size b c):Below a.heap.size a c:=h.trans (k.mono h.size)
section
variable {α:Type} {enc:α->List Value} {s:Nat} {w w':World} {B B' n:Nat} {A:Option Addr} {l:List α}
def Reads (enc:α->List Value) (s:Nat) (w:World) (B:Nat) (A:Option Addr) (n:Nat) (l:List α):Prop:=
 l.length=n/\(0<n->∃b off,A=some ⟨b,off,none⟩/\b<B/\∀k x j u,l[k]?=some x->(enc x)[j]?=some u->w.cell? ⟨b,off+k*s+j,none⟩=some u)
theorem Reads.len (h:Reads enc s w B A n l):l.length=n:=h.1
theorem Reads.nil_:Reads enc s w B A 0 ([]:List α):=⟨rfl,λh=>absurd h dP⟩
theorem Reads.keep (h:Reads enc s w B A n l) (hk:∀p:Addr,p.block<B->w'.cell? p=w.cell? p):Reads enc s w' B A n l:=
 ⟨h.1,λhn=>by obtain⟨b,off,e,hb,hc⟩:=h.2 hn;exact⟨b,off,e,hb,λk x j u hx hu=>(hk _ hb).trans (hc k x j u hx hu)⟩⟩
theorem Reads.more (h:Reads enc s w B A n l) (hB:B<=B'):Reads enc s w B' A n l:=
 ⟨h.1,λhn=>by obtain⟨b,off,e,hb,hc⟩:=h.2 hn;exact⟨b,off,e,by omega,hc⟩⟩
theorem Reads.below (h:Reads enc s w B A n l) (hb:Below B w w'):Reads enc s w' B A n l:=h.keep λ_ hp=>hb.cell hp
theorem Reads.next (h:Reads enc s w w.heap.size A n l) (hb:Below w.heap.size w w'):Reads enc s w' w'.heap.size A n l:=(h.below hb).more hb.size
theorem Reads.at_ {k:Nat} (h:Reads enc s w B A n l) (hk:k<n):
 ∃b off x,A=some ⟨b,off,none⟩/\b<B/\l[k]?=some x/\∀j u,(enc x)[j]?=some u->w.cell? ⟨b,off+k*s+j,none⟩=some u:=by
 obtain⟨b,off,e,hb,hc⟩:=h.2 dP;have hl:k<l.length:=by rw[h.1];exact hk
 have hx:l[k]?=some l[k]:=aw hl;exact⟨b,off,l[k],e,hb,hx,λj u hu=>hc k _ j u hx hu⟩
end
def Blk (w:World) (g:Nat) (t:TypeId) (cs:List Value):Prop:=w.heap[g]?=some (.cells cs.toArray t (0,0))
section
variable {w w':World} {g:Nat} {t:TypeId} {cs:List Value}
theorem Blk.lt (h:Blk w g t cs):g<w.heap.size:=by
 rcases cP g w.heap.size with hlt|tU
 ·exact hlt
 ·unfold Blk at h;rw[cI tU]at h;cases h
theorem Blk.cell (h:Blk w g t cs) (i:Nat):w.cell? ⟨g,i,none⟩=cs[i]?:=by have:=cell_of_row w g i cs.toArray t (0,0) h;simpa using this
theorem Blk.frozen (h:Blk w g t cs) (i:Nat):w.frozen? ⟨g,i,none⟩=false:=by unfold Blk at h;simp [World.frozen?,h]
theorem Blk.set_ (h:Blk w g t cs) (i:Nat) (u:Value):Blk (w.setCell ⟨g,i,none⟩ u) g t (cs.set i u):=by unfold Blk at h ⊢;simp [World.setCell,Array.getElem?_modify,h]
theorem Blk.below {B:Nat} (h:Blk w g t cs) (hb:Below B w w') (hg:g<B):Blk w' g t cs:=(hb.block g hg).trans h
end
theorem KY {α:Type} {enc:α->List Value} {s:Nat} (hs:∀x,(enc x).length=s) (l:List α) (k j:Nat) (x:α) (u:Value) (h:l[k]?=some x) (hu:(enc x)[j]?=some u):(l.flatMap enc)[k*s+j]?=some u:=by
 induction l generalizing k with
 |nil=>simp at h
 |cons a t ih=>
  cases k with
  |zero=>
   simp at h;subst h;have hj:j<(enc a).length:=(ay.1 hu).1;simpa [cY hj]using hu
  |succ k=>
   simp at h;have e1:(k+1)*s+j=(enc a).length+(k*s+j):=by rw[hs,Nat.succ_mul];omega
   rw[cB,e1,cV dP,Nat.add_sub_cancel_left];exact ih k h
theorem gN {α:Type} {enc:α->List Value} {s:Nat} (hs:∀x,(enc x).length=s) (l:List α):(l.flatMap enc).length=l.length*s:=by
 induction l with
 |nil=>simp
 |cons a t ih=>rw[cB,aY,hs,ih,bU,Nat.succ_mul];omega
theorem Blk.reads {enc:α->List Value} (hs:∀x,(enc x).length=s) {l:List α} (h:Blk w g t (l.flatMap enc)) (hB:g<B):Reads enc s w B (some ⟨g,0,none⟩) l.length l:=
 ⟨rfl,λ_=>⟨g,0,rfl,hB,λk x j u hx hu=>by rw[h.cell,bI];exact KY hs l k j x u hx hu⟩⟩
theorem abU [BEq α] [LawfulBEq α] {a b:α} (h:(a==b)=true):a=b:=lj
theorem Ys [BEq α] [LawfulBEq α] {a b:α} (h:(a==b)=false):¬a=b:=lj
theorem abV [BEq α] [LawfulBEq α] {a b:α} (h:(!a==b)=true):¬a=b:=lj
theorem Yt [BEq α] [LawfulBEq α] {a b:α} (h:(!a==b)=false):a=b:=lj
theorem eJ {l:List α} {x:α} (h:l[k]?=some x):l.take (k+1)=l.take k++[x]:=by obtain⟨hk,he⟩:=ay.1 h;rw[List.take_succ_eq_append_getElem hk,he]
theorem ZU [BEq α] [LawfulBEq α] {l l':List α} {x y:α} (h:l[k]?=some x) (h':l'[k]?=some y) (jC:¬x=y):(l==l')=false:=by rw[beq_eq_false_iff_ne];rintro rfl;rw[h]at h';exact jC (by injection h')
theorem MJ [BEq α] [LawfulBEq α] {l l':List α} (h:l.take n=l'.take n) (hl:l.length=n) (hl':l'.length=n):(l==l')=true:=by rw[aC dP,aC dP]at h;simpa using h
theorem JT [BEq α] [LawfulBEq α] {l l':List α} (h:¬l.length=l'.length):(l==l')=false:=by rw[beq_eq_false_iff_ne];rintro rfl;exact h rfl
theorem iw (t e:TypeId) (i:TypeInfo) (z:Value) (ht:P.underlying t=some (.slice e)) (hi:P.info? e=some i) (hz:i.zero=some z)
 (kl kc:IntKind) (n c:Nat) (Nh:n<=c) (ag9:i.bytes*c<=281474976710656) (h63:c<=9223372036854775807) (w:World):
 (Instr.makeSlice t (.int kl (n:Int)) (.int kc (c:Int))).run P w= .ok (.slice (some ⟨w.heap.size,0,none⟩) n c) (w.alloc (.cells (madeCells z.cells (c*i.size)) e)):=by
 have hb:(i.bytes:Int)*(c:Int)<=281474976710656:=by
  have h:((i.bytes*c:Nat):Int)<=281474976710656:=dP
  rwa [Int.natCast_mul]at h
 have hr:=run_make (P:=P) w t e i z ht hi hz kl kc n c dP dP hb dP;simp only[aU]at hr;exact hr
theorem Blk.new_ (w:World) (t:TypeId) (cs:Array Value):Blk (w.alloc (.cells cs t)) w.heap.size t cs.toList:=by unfold Blk;simpa using heap_alloc_new w (.cells cs t)
def Fil (w:World) (g:Nat) (t:TypeId) (N m:Nat) (xs:List Value):Prop:=∃cs,Blk w g t cs/\cs.length=N/\m<=N/\cs.take m=xs
section
variable {w w':World} {g:Nat} {t:TypeId} {N m:Nat} {xs:List Value}
theorem Fil.cell (h:Fil w g t N m xs) (i:Nat) (hi:i<N):∃u,w.cell? ⟨g,i,none⟩=some u:=by obtain⟨cs,hb,hl,_⟩:=h;exact⟨cs[i],by rw[hb.cell,aw]⟩
theorem Fil.frozen (h:Fil w g t N m xs) (i:Nat):w.frozen? ⟨g,i,none⟩=false:=by obtain⟨cs,hb,_⟩:=h;exact hb.frozen i
theorem Fil.lt (h:Fil w g t N m xs):g<w.heap.size:=by obtain⟨cs,h1,h2⟩:=h;exact h1.lt
theorem Fil.below {B:Nat} (h:Fil w g t N m xs) (hb:Below B w w') (hg:g<B):Fil w' g t N m xs:=by obtain⟨cs,h1,h2⟩:=h;exact⟨cs,h1.below hb hg,h2⟩
theorem Fil.next (h:Fil w g t N m xs) (hb:Below w.heap.size w w'):Fil w' g t N m xs:=h.below hb h.lt
theorem Fil.put (h:Fil w g t N m xs) (hm:m<N) (u:Value):Fil (w.setCell ⟨g,m,none⟩ u) g t N (m+1) (xs++[u]):=by obtain⟨cs,h1,h2,h3,h4⟩:=h;refine⟨_,h1.set_ _ _,by simp [h2],by omega,?_⟩;rw[List.take_succ_eq_append_getElem dS,List.take_set_of_le dP,h4];simp
theorem Fil.start (w:World) (t:TypeId) (cs:Array Value) (N:Nat) (h:cs.size=N):Fil (w.alloc (.cells cs t)) w.heap.size t N 0 []:=
 ⟨cs.toList,Blk.new_ w t cs,by simpa using h,by omega,by simp⟩
theorem Fil.zero (h:Fil w g t N m xs):Fil w g t N 0 []:=by obtain⟨cs,h1,h2,h3,h4⟩:=h;exact⟨cs,h1,h2,by omega,by simp⟩
end
structure ElemTy (P:Program) (t e:TypeId) (size bytes:Nat):Prop where
 ok:∃i z,P.underlying t=some (.slice e)/\P.info? e=some i/\i.zero=some z/\i.size=size/\i.bytes=bytes/\z.cells.size=size/\0<size
def Own {α:Type} (enc:α->List Value) (s:Nat) (e:TypeId) (w:World) (base:Nat) (A:Option Addr) (n c:Nat) (l:List α):Prop:=
 l.length=n/\w.ownsRow base e s (.slice A n c) n (l.flatMap enc)
section
variable {α:Type} {enc:α->List Value} {s:Nat} {e:TypeId} {w w':World} {base n c:Nat} {A:Option Addr} {l:List α}
theorem Own.len (h:Own enc s e w base A n c l):l.length=n:=h.1
theorem Own.cap (h:Own enc s e w base A n c l):n<=c:=by
 rcases h.2.2 with ⟨h0,h1⟩|⟨g,cap,pq,h0,_,_,h1,_⟩
 ·omega
 ·injection h0 with _ _ h0;omega
theorem Own.lt {b:Addr} (h:Own enc s e w base (some b) n c l):base<=b.block/\b.block<w.heap.size:=h.2.lt b.block rfl
theorem Own.plain {b:Addr} (h:Own enc s e w base (some b) n c l):b=⟨b.block,0,none⟩:=by
 rcases h.2.2 with ⟨h0,h1⟩|⟨g,cap,pq,h0,_,_,h1,_⟩
 ·cases h0
 ·injection h0 with h0;injection h0 with h0;subst h0;rfl
theorem Own.reads (mB:∀x,(enc x).length=s) (h:Own enc s e w base A n c l):Reads enc s w w.heap.size A n l:=by
 refine⟨h.1,λhn=>?_⟩;rcases h.2.2 with ⟨h0,h1⟩|⟨g,cap,pq,h0,hg,hh,hc,_,_,hx⟩
 ·omega
 ·injection h0 with h0;subst h0
  refine⟨g,0,rfl,h.lt.2,λk x j u hk hu=>?_⟩;have:=h.2.cells (g:=g) rfl _ _ (KY mB l k j x u hk hu);rw[show (⟨g,0,none⟩:Addr).add (k*s+j)=⟨g,0+k*s+j,none⟩ from by unfold Addr.add;split<;>simp_all]at this;exact this
theorem Own.kept {row:Option Nat} (h:Own enc s e w base A n c l) (hg:w.grownBy w' row) (jC:A=none\/(Value.slice A n c).ownBlock≠row):Own enc s e w' base A n c l:=
 ⟨h.1,h.2.kept hg (by rcases jC with rfl|jC;exact .inl rfl;exact .inr jC)⟩
theorem Own.below (h:Own enc s e w base A n c l) (hb:Below w.heap.size w w'):Own enc s e w' base A n c l:=by
 refine h.kept (row:=none) ⟨hb.os,hb.tape,hb.output,hb.size,λk hk _=>hb.block k hk⟩ ?_;cases A with
 |none=>exact .inl rfl
 |some b=>exact .inr (by simp [Value.ownBlock])
theorem Own.alloc (h:Own enc s e w base A n c l) (o:Obj):Own enc s e (w.alloc o) base A n c l:=⟨h.1,h.2.alloc o⟩
theorem Own.mono {base':Nat} (h:Own enc s e w base A n c l) (hb:base'<=base):Own enc s e w base' A n c l:=by
 refine⟨h.1,h.2.1,?_⟩;rcases h.2.2 with h0|⟨g,cap,pq,h0,hg,hr⟩
 ·exact .inl h0
 ·exact .inr ⟨g,cap,pq,h0,by omega,hr⟩
theorem Own.nil_:Own enc s e w base none 0 0 ([]:List α):=⟨rfl,World.ownsRow_nil w base e s⟩
theorem Own.take (mB:∀x,(enc x).length=s) (h:Own enc s e w base A n c l) {k:Nat} (hk:k<=n) (hA:A≠none):Own enc s e w base A k c (l.take k):=by
 have hl:(l.take k).length=k:=by have:=h.1;simp;omega
 refine⟨hl,by rw[gN mB,hl],?_⟩;rcases h.2.2 with ⟨h0,h1⟩|⟨g,cap,pq,h0,hg,hh,hc,hm,hz,hx⟩
 ·injection h0 with h0;exact absurd h0 hA
 ·injection h0 with h0 _ h3;subst h0 h3
  refine .inr ⟨g,c,pq,rfl,hg,hh,by omega,hm,hz,?_⟩;have h2:pq.toList.take (k*s)=(pq.toList.take (n*s)).take (k*s):=by rw[List.take_take,Nat.min_eq_left (dd _ hk)]
  rw[h2,hx];have h4:l.flatMap enc=(l.take k).flatMap enc++(l.drop k).flatMap enc:=by rw[<-cj,cA]
  rw[h4,List.take_append_of_le_length (by rw[gN mB,hl];omega),aC (by rw[gN mB,hl];omega)]
theorem Own.new_ (mB:∀x,(enc x).length=s) (w:World) (l:List α) (cs:Array Value) {g:Nat} (hc:cs.toList=l.flatMap enc) (hn:l.length=n) (hm:n<=maxLen) (hb:base<=w.heap.size) (hg:w.heap.size=g):
 Own enc s e (w.alloc (.cells cs e)) base (some ⟨g,0,none⟩) n n l:=by
 subst hg;have hz:cs.size=n*s:=by rw[<-Array.length_toList,hc,gN mB,hn]
 exact⟨hn,by rw[gN mB,hn],.inr ⟨w.heap.size,n,cs,rfl,hb,heap_alloc_new w _,af _,hm,hz,by rw[hc,aC (by rw[gN mB,hn];omega)]⟩⟩
theorem Fil.own (mB:∀x,(enc x).length=s) {g:Nat} (h:Fil w g e (c*s) (n*s) (l.flatMap enc)) (hn:l.length=n) (Nh:n<=c) (hm:c<=maxLen) (hb:base<=g):Own enc s e w base (some ⟨g,0,none⟩) n c l:=by obtain⟨cs,h1,h2,h3,h4⟩:=h;exact⟨hn,by rw[gN mB,hn],.inr ⟨g,c,cs.toArray,rfl,hb,h1,Nh,hm,by simpa using h2,by simpa using h4⟩⟩
theorem Own.fil {g:Nat} (h:Own enc s e w base (some ⟨g,0,none⟩) n c l):Fil w g e (c*s) 0 []/\c<=maxLen:=by
 rcases h.2.2 with ⟨h0,h1⟩|⟨g',cap,pq,h0,hg,hh,hc,hm,hz,hx⟩
 ·cases h0
 ·injection h0 with h0 _ h3;injection h0 with h0;injection h0 with h0;subst h0 h3
  exact⟨⟨pq.toList,by unfold Blk;simpa using hh,by simpa using hz,by omega,by simp⟩,hm⟩
theorem Own.cases (h:Own enc s e w base A n c l):(A=none/\n=0/\c=0/\l=[])\/∃g,A=some ⟨g,0,none⟩:=by
 rcases h.2.2 with ⟨h0,h1⟩|⟨g',cap,pq,h0,_⟩
 ·injection h0 with h0 h2 h3;have:=h.1;exact .inl ⟨h0,h1,h3,aR.1 dP⟩
 ·injection h0 with h0;exact .inr ⟨g',h0⟩
end
theorem A8 (w:World) (row:Option Nat):w.grownBy w row:=⟨rfl,rfl,rfl,af _,λ_ _ _=>rfl⟩
theorem PT {row:Option Nat} (h:a.grownBy w row) (hb:Below w.heap.size w w'):a.grownBy w' row:=
 ⟨hb.os.trans h.os,hb.tape.trans h.tape,hb.output.trans h.output,du h.size hb.size,λi hi hn=>(hb.block i (db hi h.size)).trans (h.block i hi hn)⟩
theorem Vs {c:World} {row:Option Nat} (h:a.grownBy b row) (k:Below a.heap.size b c):a.grownBy c row:=
 ⟨k.os.trans h.os,k.tape.trans h.tape,k.output.trans h.output,du h.size k.size,λi hi hn=>(k.block i hi).trans (h.block i hi hn)⟩
theorem SQ {row:Option Nat} (h:a.grownBy w row):a.grownBy w.drew row:=⟨h.os,h.tape,h.output,h.size,h.block⟩
theorem Lw (h:a.grownBy w (some g)) (hp:p.block=g\/a.heap.size<=p.block) (u:Value):a.grownBy (w.setCell p u) (some g):=
 ⟨h.os,h.tape,h.output,by simpa [World.setCell]using h.size,λi hi jC=>(Below.heap_setCell w p u i (by
  rintro rfl;rcases hp with hp|hp
  ·exact jC (by rw[hp])
  ·omega)).trans (h.block i hi jC)⟩
theorem v_ (enc:α->List Value) {size bytes:Nat} (hT:ElemTy P t e size bytes) (mB:∀x,(enc x).length=size) (hone:∀x,∀u∈enc x,u.oneCell'=true)
 {ops:Array Oper} {rest:List Oper} {o:Oper} {a:Act} {Q:Exit->Act->World->Prop} {w:World} (zK:o.guard=none) (sl x:Operand)
 (ho:o.op= .call {callee:= .builtin .append,args:=#[sl,x],argTypes:=#[t,t]})
 (base:Nat) (A:Option Addr) (n c:Nat) (l:List α) (hs:a.eval sl= .slice A n c) (mC:Own enc size e w base A n c l)
 (y:α) (b off m:Nat) (hx:a.eval x= .slice (some ⟨b,off,none⟩) 1 m) (adY:∀j u,(enc y)[j]?=some u->w.cell? ⟨b,off+j,none⟩=some u)
 (h63:(n+1)*bytes<=140737488355328) (hn:n+1<=maxLen) (DC:base<=w.heap.size)
 (h:∀g c' w',Own enc size e w' base (some ⟨g,0,none⟩) (n+1) c' (l++[y])->w.grownBy w' (Value.slice A n c).ownBlock->Below base w w'->((Value.slice A n c).ownBlock=some g\/g=w.heap.size)->
  wpList P ops Q rest (a.put o.dst (.slice (some ⟨g,0,none⟩) (n+1) c')) w'):wpList P ops Q (o::rest) a w:=by
 obtain⟨i,z,ht,hi,hz,h1,h2,h3,h4⟩:=hT.ok;refine wpList_append_own_at w zK sl x t ho base e i z size bytes ht hi hz h1 h2 h3 h4 _ n _ hs mC.2 ⟨b,off,none⟩ 1 m (enc y) hx (by rw[mB,Nat.one_mul]) (λj u hu=>?_) (hone y) hn h63 DC ?_
 ·have:=adY j u hu;unfold Addr.add;split
  ·simp_all
  ·exact this
 ·intro v' w' h5 h6 h7 h8;have hlt:=mC.2.lt;rcases h5.2 with ⟨h9,h10⟩|⟨g,cap,pq,h9,h10⟩
  ·omega
  ·subst h9;refine h g cap w' ⟨by simp [mC.1],?_⟩ h6 ?_ ?_
   ·rw[cj];simpa using h5
   ·exact(Below.refl _ _).grown h6 DC (λk hk=>(hlt k hk).1)
   ·rcases h8 with h8|h8
    ·left;rw[<-h8];rfl
    ·right;simp [Value.ownBlock]at h8;exact h8
theorem Own.apart {α:Type} {enc:α->List Value} {s:Nat} {e:TypeId} {w:World} {base n c:Nat} {A:Option Addr} {l:List α} (h:Own enc s e w base A n c l) {g:Nat} (hg:g<base\/w.heap.size<=g):A=none\/(Value.slice A n c).ownBlock≠some g:=by
 cases A with
 |none=>exact .inl rfl
 |some b=>
  have:=h.lt;refine .inr ?_;simp only[Value.ownBlock];intro e;injection e with e;omega
theorem Own.row {enc:α->List Value} {l:List α} (h:Own enc s e w base A n c l):∀g,(Value.slice A n c).ownBlock=some g->base<=g/\g<w.heap.size:=h.2.lt
theorem Uh {α:Type} {enc:α->List Value} {s:Nat} (hs:∀x,(enc x).length=s) (l:List α) (k j:Nat) (x x':α) (u:Value) (h:l[k]?=some x) (hj:j<s) (he:enc x'=(enc x).set j u):(l.flatMap enc).set (k*s+j) u=(l.set k x').flatMap enc:=by
 induction l generalizing k with
 |nil=>simp at h
 |cons a t ih=>
  cases k with
  |zero=>
   simp at h;subst h;rw[cB,a_,cB,he,dx,bI,List.set_append_left _ _ (by rw[hs];exact hj)]
  |succ k=>
   simp at h;have e1:(k+1)*s+j=(enc a).length+(k*s+j):=by rw[hs,Nat.succ_mul];omega
   rw[cB,be,cB,e1,dI _ _ dP,Nat.add_sub_cancel_left,ih k h]
theorem Own.set_ {enc:α->List Value} (hs:∀x,(enc x).length=s) {l:List α} (h:Own enc s e w base (some ⟨g,0,none⟩) n c l) (k j:Nat) (x x':α) (u:Value) (hx:l[k]?=some x) (hj:j<s) (he:enc x'=(enc x).set j u):
 Own enc s e (w.setCell ⟨g,k*s+j,none⟩ u) base (some ⟨g,0,none⟩) n c (l.set k x'):=by
 have hk:k<l.length:=(ay.1 hx).1;refine⟨by simpa using h.1,by rw[gN hs];simp [h.1],?_⟩;rcases h.2.2 with ⟨h0,h1⟩|⟨g',cap,pq,h0,hg,hh,hc,hm,hz,ht⟩
 ·cases h0
 ·injection h0 with h0 _ h3;injection h0 with h0;injection h0 with h0;subst h0 h3
  refine .inr ⟨g,c,pq.setIfInBounds (k*s+j) u,rfl,hg,?_,hc,hm,by simpa using hz,?_⟩
  ·simp [World.setCell,Array.getElem?_modify,hh]
  ·have hlt:k*s+j<n*s:=by have h4:=h.1;have h5:k+1<=n:=dP;have h6:=dd s h5;rw[Nat.succ_mul]at h6;omega
   rw[Array.toList_setIfInBounds,List.take_set,ht,Uh hs l k j x x' u hx hj he]
theorem fY {W w1:World} (hb:Below W.heap.size W w1):(∀b o,b<W.heap.size->w1.cell? ⟨b,o,none⟩=W.cell? ⟨b,o,none⟩)/\(∀b o,b<W.heap.size->w1.frozen? ⟨b,o,none⟩=W.frozen? ⟨b,o,none⟩):=
 ⟨λb o h=>hb.cell (p:=⟨b,o,none⟩) h,λb o h=>hb.frozen (p:=⟨b,o,none⟩) h⟩
theorem dT (w:World) (o:Obj):(w.alloc o).heap.size=w.heap.size+1:=dR
theorem dX (w:World) (p:Addr) (u:Value):(w.setCell p u).heap.size=w.heap.size:=by simp [World.setCell]
theorem Own.poke {enc:α->List Value} {l:List α} (h:Own enc s e w base A n c l) (hp:p.block<base) (u:Value):Own enc s e (w.setCell p u) base A n c l:=
 h.kept (Lw (A8 _ _) (.inl rfl) u) (h.apart (.inl hp))
theorem Blk.next (h:Blk w g t cs) (hb:Below w.heap.size w w'):Blk w' g t cs:=h.below hb h.lt
theorem Blk.c4 {a b c d:Value} (h:Blk w g t [a,b,c,d]):w.cell? ⟨g,0,none⟩=some a/\w.cell? ⟨g,1,none⟩=some b/\w.cell? ⟨g,2,none⟩=some c/\w.cell? ⟨g,3,none⟩=some d:=⟨h.cell 0,h.cell 1,h.cell 2,h.cell 3⟩
abbrev Row (s:Nat):={cs:List Value//cs.length=s}
abbrev Row.v {s:Nat} (r:Row s):List Value:=r.val
theorem Row.len (r:Row s):r.v.length=s:=r.property
inductive D where
 |i (k:IntKind) (n:Int)
 |b (x:Bool)
 |s (x:Str)
 |st (fs:List D)
 |sl (xs:List D)
mutual
def rep (w:World) (B:Nat):D->List Value->Prop
 | .i k n,cs=>cs=[.int k n]/\(Lit.int k n).wf=true
 | .b x,cs=>cs=[.bool x]
 | .s x,cs=>cs=[sv x]/\x.length<=maxLen
 | .st fs,cs=>∃css,cs=css.flatten/\gb w B fs css
 | .sl xs,cs=>∃(A:Option Addr) (n c s:Nat) (fB:List (Row s)),cs=[.slice A n c]/\n<=c/\c<=maxLen/\Reads Row.v s w B A n fB/\gb w B xs (fB.map Row.v)
def gb (w:World) (B:Nat):List D->List (List Value)->Prop
 |[],css=>css=[]
 |x::t,css=>∃c1 c2,css=c1::c2/\rep w B x c1/\gb w B t c2
end
mutual
theorem tf {w w':World} {B B':Nat} (hB:B<=B') (hk:∀p:Addr,p.block<B->w'.cell? p=w.cell? p):∀(d:D) (cs:List Value),rep w B d cs->rep w' B' d cs
 | .i _ _,_,h=>by rw[rep]at h ⊢;exact h
 | .b _,_,h=>by rw[rep]at h ⊢;exact h
 | .s _,_,h=>by rw[rep]at h ⊢;exact h
 | .st fs,_,h=>by rw[rep]at h ⊢;obtain⟨css,h1,h2⟩:=h;exact⟨css,h1,Bb hB hk fs css h2⟩
 | .sl xs,_,h=>by rw[rep]at h ⊢;obtain⟨A,n,c,s,fB,h1,h2,h3,h4,h5⟩:=h;exact⟨A,n,c,s,fB,h1,h2,h3,(h4.keep hk).more hB,Bb hB hk xs _ h5⟩
theorem Bb {w w':World} {B B':Nat} (hB:B<=B') (hk:∀p:Addr,p.block<B->w'.cell? p=w.cell? p):∀(l:List D) (css:List (List Value)),gb w B l css->gb w' B' l css
 |[],_,h=>by rw[gb]at h ⊢;exact h
 |x::t,_,h=>by rw[gb]at h ⊢;obtain⟨c1,c2,h1,h2,h3⟩:=h;exact⟨c1,c2,h1,tf hB hk x c1 h2,Bb hB hk t c2 h3⟩
end
theorem fF {d:D} (h:rep w B d cs) (hb:Below B w w'):rep w' B d cs:=tf (af _) (λ_ hp=>hb.cell hp) d cs h
theorem gY {B':Nat} {d:D} (h:rep w B d cs) (hB:B<=B'):rep w B' d cs:=tf hB (λ_ _=>rfl) d cs h
theorem fM {d:D} (h:rep w w.heap.size d cs) (hb:Below w.heap.size w w'):rep w' w'.heap.size d cs:=gY (fF h hb) hb.size
theorem fb {d:D} (h:rep w B d cs) (hb:Below B w w') (hB:B<=w'.heap.size):rep w' w'.heap.size d cs:=gY (fF h hb) hB
theorem vP {d:D} (h:rep w B d cs):rep w.drew B d cs:=tf (w:=w) (af _) (λp _=>by rfl) d cs h
theorem Kd {d:D} (h:rep w B d cs) (n:Nat):rep (w.drewN n) B d cs:=tf (w:=w) (af _) (λp _=>by rfl) d cs h
theorem vO {w:World} {B:Nat}:∀{l:List D} {css:List (List Value)},gb w B l css->l.length=css.length
 |[],_,h=>by rw[gb]at h;rw[h];rfl
 |x::t,_,h=>by rw[gb]at h;obtain⟨c1,c2,rfl,_,h3⟩:=h;simp [vO h3]
theorem CI {w:World} {B:Nat}:∀{l:List D} {css:List (List Value)} {k:Nat} {d:D} {cs:List Value},gb w B l css->l[k]?=some d->css[k]?=some cs->rep w B d cs
 |[],_,_,_,_,_,h',_=>by simp at h'
 |x::t,_,k,d,cs,h,h',h''=>by
  rw[gb]at h;obtain⟨c1,c2,rfl,h2,h3⟩:=h;cases k with
  |zero=>simp at h' h'';subst h' h'';exact h2
  |succ k=>simp at h' h'';exact CI h3 h' h''
theorem LA {w:World} {B:Nat}:∀{l:List D} {css:List (List Value)},l.length=css.length->(∀(k:Nat) d cs,l[k]?=some d->css[k]?=some cs->rep w B d cs)->gb w B l css
 |[],css,hl,_=>by rw[gb];exact aR.1 hl.symm
 |x::t,css,hl,h=>by
  cases css with
  |nil=>simp at hl
  |cons c1 c2=>rw[gb];exact⟨c1,c2,rfl,h 0 x c1 rfl rfl,LA (by simpa using hl) (λk d cs h1 h2=>h (k+1) d cs h1 h2)⟩
theorem EP {f:α->D} {enc:α->List Value} {ok:α->Prop} (hf:∀x cs,rep w B (f x) cs↔cs=enc x/\ok x) (mB:∀x,(enc x).length=s) (l:List α) (cs:List Value):
 rep w B (.sl (l.map f)) cs↔∃(A:Option Addr) (n c:Nat),cs=[.slice A n c]/\n<=c/\c<=maxLen/\Reads enc s w B A n l/\∀x∈l,ok x:=by
 rw[rep];constructor
 ·rintro⟨A,n,c,s',fB,h1,h2,h3,h4,h5⟩;have hl:=vO h5;simp only[au]at hl;have hat:∀(k:Nat) (x:α) (r:Row s'),l[k]?=some x->fB[k]?=some r->r.v=enc x/\ok x:=λk x r hx hr=>(hf x _).1 (CI h5 (k:=k) iF (by simp [hr]));refine⟨A,n,c,h1,h2,h3,⟨by rw[hl];exact h4.len,λhn=>?_⟩,λx hx=>?_⟩
  ·obtain⟨b,off,e,hb,hc⟩:=h4.2 hn;refine⟨b,off,e,hb,λk x j u hx hu=>?_⟩;have hk:k<fB.length:=by rw[<-hl];exact(ay.1 hx).1
   have hr:fB[k]?=some fB[k]:=aw hk;have h6:=(hat k x _ hx hr).1;have hs:s'=s:=by rw[<-mB x,<-h6];exact(Row.len _).symm
   have:=hc k _ j u hr (by rw[h6];exact hu);rw[hs]at this;exact this
  ·obtain⟨k,hk,rfl⟩:=List.getElem_of_mem hx;exact(hat k _ (fB[k]' dP) (aw hk) (aw _)).2
 ·rintro⟨A,n,c,h1,h2,h3,h4,h5⟩;refine⟨A,n,c,s,l.map (λx=>⟨enc x,mB x⟩),h1,h2,h3,⟨by simpa using h4.len,λhn=>?_⟩,LA dR λk d cs hd hc=>?_⟩
  ·obtain⟨b,off,e,hb,hc⟩:=h4.2 hn;refine⟨b,off,e,hb,λk x j u hx hu=>?_⟩;rw[cg]at hx;cases hk:l[k]? with
   |none=>simp [hk]at hx
   |some y=>simp [hk]at hx;subst hx;exact hc k y j u hk hu
  ·simp only[List.map_map,cg]at hd hc;cases hk:l[k]? with
   |none=>simp [hk]at hd
   |some y=>
    simp [hk]at hd hc;subst hd hc;exact(hf y _).2 ⟨rfl,h5 y (aA hk)⟩
theorem jW {d:D} {t:List D} {c:List Value} {u:List (List Value)}:gb w B (d::t) (c::u)↔rep w B d c/\gb w B t u:=by
 constructor
 ·intro h;rw[gb]at h;obtain⟨c1,c2,he,h1,h2⟩:=h;injection he with he1 he2;subst he1 he2;exact⟨h1,h2⟩
 ·rintro⟨h1,h2⟩;rw[gb];exact⟨c,u,rfl,h1,h2⟩
theorem EO:gb w B [] []:=by rw[gb]
def oz (A:Option Addr):List Nat:=match A with
 |none=>[]
 |some a=>[a.block]
mutual
def own (P:Program) (w:World):D->TypeId->List Nat->List Value->Prop
 | .i k n,_,F,cs=>F=[]/\cs=[.int k n]/\(Lit.int k n).wf=true
 | .b x,_,F,cs=>F=[]/\cs=[.bool x]
 | .s x,_,F,cs=>F=[]/\cs=[sv x]/\x.length<=maxLen
 | .st fs,t,F,cs=>∃(KW:Array Field) (css:List (List Value)),P.underlying t=some (.struct KW)/\cs=css.flatten/\iB P w fs (KW.toList.map Field.type) F css
 | .sl xs,t,F,cs=>∃(e:TypeId) (A:Option Addr) (n c s:Nat) (fB:List (Row s)) (F2:List Nat),P.underlying t=some (.slice e)/\P.cellsOf e=s/\cs=[.slice A n c]/\c<=maxLen/\Own Row.v s e w 0 A n c fB/\F=oz A++F2/\iv P w xs e F2 (fB.map Row.v)
def iB (P:Program) (w:World):List D->List TypeId->List Nat->List (List Value)->Prop
 |[],ts,F,css=>ts=[]/\F=[]/\css=[]
 |x::t,ts,F,css=>∃t1 t2 F1 F2 c1 c2,ts=t1::t2/\F=F1++F2/\css=c1::c2/\own P w x t1 F1 c1/\iB P w t t2 F2 c2
def iv (P:Program) (w:World):List D->TypeId->List Nat->List (List Value)->Prop
 |[],_,F,css=>F=[]/\css=[]
 |x::t,e,F,css=>∃F1 F2 c1 c2,F=F1++F2/\css=c1::c2/\own P w x e F1 c1/\iv P w t e F2 c2
end
section
variable {P:Program} {w w':World}
theorem Own.same {α:Type} {enc:α->List Value} {s:Nat} {e:TypeId} {base n c:Nat} {A:Option Addr} {l:List α} (h:Own enc s e w base A n c l) (hk:∀g∈oz A,w'.heap[g]?=w.heap[g]?):Own enc s e w' base A n c l:=by
 refine⟨h.1,h.2.1,?_⟩;rcases h.2.2 with h0|⟨g,cap,pq,h0,hg,hh,hr⟩
 ·exact .inl h0
 ·refine .inr ⟨g,cap,pq,h0,hg,?_,hr⟩;injection h0 with h0;subst h0;rw[hk g (by simp [oz])];exact hh
theorem Own.lt' {α:Type} {enc:α->List Value} {s:Nat} {e:TypeId} {base n c:Nat} {A:Option Addr} {l:List α} (h:Own enc s e w base A n c l):∀g∈oz A,base<=g/\g<w.heap.size:=by
 intro g hg;cases A with
 |none=>simp [oz]at hg
 |some a=>simp [oz]at hg;subst hg;exact h.lt
mutual
theorem nJ:∀(d:D) (t:TypeId) (F:List Nat) (cs:List Value),(∀g∈F,w'.heap[g]?=w.heap[g]?)->own P w d t F cs->own P w' d t F cs
 | .i _ _,_,_,_,_,h=>by rw[own]at h ⊢;exact h
 | .b _,_,_,_,_,h=>by rw[own]at h ⊢;exact h
 | .s _,_,_,_,_,h=>by rw[own]at h ⊢;exact h
 | .st fs,_,_,_,hk,h=>by rw[own]at h ⊢;obtain⟨KW,css,h1,h2,h3⟩:=h;exact⟨KW,css,h1,h2,JX fs _ _ css hk h3⟩
 | .sl xs,_,_,_,hk,h=>by rw[own]at h ⊢;obtain⟨e,A,n,c,s,fB,F2,h1,h2,h3,hm,h4,rfl,h6⟩:=h;exact⟨e,A,n,c,s,fB,F2,h1,h2,h3,hm,h4.same (λg hg=>hk g (bJ _ hg)),rfl,mI xs e F2 _ (λg hg=>hk g (bD _ hg)) h6⟩
theorem JX:∀(l:List D) (ts:List TypeId) (F:List Nat) (css:List (List Value)),(∀g∈F,w'.heap[g]?=w.heap[g]?)->iB P w l ts F css->iB P w' l ts F css
 |[],_,_,_,_,h=>by rw[iB]at h ⊢;exact h
 |x::t,_,_,_,hk,h=>by rw[iB]at h ⊢;obtain⟨t1,t2,F1,F2,c1,c2,h1,rfl,h3,h4,h5⟩:=h;exact⟨t1,t2,F1,F2,c1,c2,h1,rfl,h3,nJ x t1 F1 c1 (λg hg=>hk g (bJ _ hg)) h4,JX t t2 F2 c2 (λg hg=>hk g (bD _ hg)) h5⟩
theorem mI:∀(l:List D) (e:TypeId) (F:List Nat) (css:List (List Value)),(∀g∈F,w'.heap[g]?=w.heap[g]?)->iv P w l e F css->iv P w' l e F css
 |[],_,_,_,_,h=>by rw[iv]at h ⊢;exact h
 |x::t,e,_,_,hk,h=>by rw[iv]at h ⊢;obtain⟨F1,F2,c1,c2,rfl,h3,h4,h5⟩:=h;exact⟨F1,F2,c1,c2,rfl,h3,nJ x e F1 c1 (λg hg=>hk g (bJ _ hg)) h4,mI t e F2 c2 (λg hg=>hk g (bD _ hg)) h5⟩
end
mutual
theorem jT:∀(d:D) (t:TypeId) (F:List Nat) (cs:List Value),own P w d t F cs->∀g∈F,g<w.heap.size
 | .i _ _,_,_,_,h=>by rw[own]at h;rw[h.1];simp
 | .b _,_,_,_,h=>by rw[own]at h;rw[h.1];simp
 | .s _,_,_,_,h=>by rw[own]at h;rw[h.1];simp
 | .st fs,_,_,_,h=>by rw[own]at h;obtain⟨KW,css,h1,h2,h3⟩:=h;exact Q8 fs _ _ css h3
 | .sl xs,_,_,_,h=>by
  rw[own]at h;obtain⟨e,A,n,c,s,fB,F2,h1,h2,h3,hm,h4,rfl,h6⟩:=h;intro g hg;rcases aG.1 hg with hg|hg
  ·exact(h4.lt' g hg).2
  ·exact qF xs e F2 _ h6 g hg
theorem Q8:∀(l:List D) (ts:List TypeId) (F:List Nat) (css:List (List Value)),iB P w l ts F css->∀g∈F,g<w.heap.size
 |[],_,_,_,h=>by rw[iB]at h;rw[h.2.1];simp
 |x::t,_,_,_,h=>by
  rw[iB]at h;obtain⟨t1,t2,F1,F2,c1,c2,h1,rfl,h3,h4,h5⟩:=h;intro g hg;rcases aG.1 hg with hg|hg
  ·exact jT x t1 F1 c1 h4 g hg
  ·exact Q8 t t2 F2 c2 h5 g hg
theorem qF:∀(l:List D) (e:TypeId) (F:List Nat) (css:List (List Value)),iv P w l e F css->∀g∈F,g<w.heap.size
 |[],_,_,_,h=>by rw[iv]at h;rw[h.1];simp
 |x::t,e,_,_,h=>by
  rw[iv]at h;obtain⟨F1,F2,c1,c2,rfl,h3,h4,h5⟩:=h;intro g hg;rcases aG.1 hg with hg|hg
  ·exact jT x e F1 c1 h4 g hg
  ·exact qF t e F2 c2 h5 g hg
end
mutual
theorem eW:∀(d:D) (t:TypeId) (F:List Nat) (cs:List Value),own P w d t F cs->rep w w.heap.size d cs
 | .i _ _,_,_,_,h=>by rw[own]at h;rw[rep];exact h.2
 | .b _,_,_,_,h=>by rw[own]at h;rw[rep];exact h.2
 | .s _,_,_,_,h=>by rw[own]at h;rw[rep];exact h.2
 | .st fs,_,_,_,h=>by rw[own]at h;obtain⟨KW,css,h1,h2,h3⟩:=h;rw[rep];exact⟨css,h2,NH fs _ _ css h3⟩
 | .sl xs,_,_,_,h=>by rw[own]at h;obtain⟨e,A,n,c,s,fB,F2,h1,h2,h3,hm,h4,rfl,h6⟩:=h;rw[rep];exact⟨A,n,c,s,fB,h3,h4.cap,hm,h4.reads Row.len,NG xs e F2 _ h6⟩
theorem NH:∀(l:List D) (ts:List TypeId) (F:List Nat) (css:List (List Value)),iB P w l ts F css->gb w w.heap.size l css
 |[],_,_,_,h=>by rw[iB]at h;rw[gb];exact h.2.2
 |x::t,_,_,_,h=>by rw[iB]at h;obtain⟨t1,t2,F1,F2,c1,c2,h1,rfl,h3,h4,h5⟩:=h;rw[gb];exact⟨c1,c2,h3,eW x t1 F1 c1 h4,NH t t2 F2 c2 h5⟩
theorem NG:∀(l:List D) (e:TypeId) (F:List Nat) (css:List (List Value)),iv P w l e F css->gb w w.heap.size l css
 |[],_,_,_,h=>by rw[iv]at h;rw[gb];exact h.2
 |x::t,e,_,_,h=>by rw[iv]at h;obtain⟨F1,F2,c1,c2,rfl,h3,h4,h5⟩:=h;rw[gb];exact⟨c1,c2,h3,eW x e F1 c1 h4,NG t e F2 c2 h5⟩
end
theorem em {d:D} {t:TypeId} {F:List Nat} {cs:List Value} (h:own P w d t F cs) (hb:Below w.heap.size w w'):own P w' d t F cs:=
 nJ d t F cs (λg hg=>hb.block g (jT d t F cs h g hg)) h
theorem lG {d:D} {t:TypeId} {F:List Nat} {cs:List Value} (h:own P w d t F cs) {p:Addr} (hp:p.block ∉ F) (u:Value):own P (w.setCell p u) d t F cs:=
 nJ d t F cs (λg hg=>Below.heap_setCell w p u g (by rintro rfl;exact hp hg)) h
theorem xV {l:List D} {e:TypeId} {F:List Nat} {css:List (List Value)} (h:iv P w l e F css) (hb:Below w.heap.size w w'):iv P w' l e F css:=
 mI l e F css (λg hg=>hb.block g (qF l e F css h g hg)) h
theorem s_:∀{l:List D} {e:TypeId} {F F':List Nat} {css:List (List Value)} {d:D} {cs:List Value},iv P w l e F css->own P w d e F' cs->iv P w (l++[d]) e (F++F') (css++[cs])
 |[],e,F,F',css,d,cs,h,h'=>by rw[iv]at h;obtain⟨rfl,rfl⟩:=h;rw[cJ,iv];exact⟨F',[],cs,[],by simp,rfl,h',by rw[iv];exact⟨rfl,rfl⟩⟩
 |x::t,e,F,F',css,d,cs,h,h'=>by rw[iv]at h;obtain⟨F1,F2,c1,c2,rfl,rfl,h4,h5⟩:=h;rw[cK,iv];exact⟨F1,F2++F',c1,c2++[cs],by simp,rfl,h4,s_ h5 h'⟩
theorem p_:iB P w [] [] [] []:=by rw[iB];exact⟨rfl,rfl,rfl⟩
theorem fg {x:D} {l:List D} {t1:TypeId} {t2:List TypeId} {F1 F2:List Nat} {c1:List Value} {c2:List (List Value)} (h:own P w x t1 F1 c1) (h':iB P w l t2 F2 c2):iB P w (x::l) (t1::t2) (F1++F2) (c1::c2):=by rw[iB];exact⟨t1,t2,F1,F2,c1,c2,rfl,rfl,rfl,h,h'⟩
theorem pk {w:World} {p:Addr} {u:Value} {g:Nat} {o:Option Obj} (h:g≠p.block) (h':w.heap[g]?=o):(w.setCell p u).heap[g]?=o:=(Below.heap_setCell w p u g h).trans h'
def Fresh (B:Nat) (F:List Nat):Prop:=F.Nodup/\∀g∈F,B<=g
theorem Fresh.nil {B:Nat}:Fresh B []:=⟨List.nodup_nil,by simp⟩
theorem Fresh.app {B B':Nat} {F F':List Nat} (h:Fresh B F) (hl:∀g∈F,g<B') (h':Fresh B' F') (hB:B<=B'):Fresh B (F++F'):=
 ⟨aE.2 ⟨h.1,h'.1,λa ha b hb e=>by have:=hl a ha;have:=h'.2 b hb;omega⟩,λg hg=>by
  rcases aG.1 hg with hg|hg
  ·exact h.2 g hg
  ·have:=h'.2 g hg;omega⟩
theorem Fresh.mono {B B':Nat} {F:List Nat} (h:Fresh B F) (hB:B'<=B):Fresh B' F:=⟨h.1,λg hg=>du hB (h.2 g hg)⟩
theorem Fresh.notin {B:Nat} {F:List Nat} (h:Fresh B F) {g:Nat} (hg:g<B):g ∉ F:=λhm=>by have:=h.2 g hm;omega
theorem Fresh.one {B:Nat} {A:Option Addr} (h:∀g∈oz A,B<=g):Fresh B (oz A):=⟨by cases A<;>simp [oz],h⟩
end
def zq (b:UInt8):List Value:=[.int .u8 b.toNat]
def Cur (w:World) (g:Nat):Prop:=∃(A:Option Addr) (n c:Nat) (bs:List UInt8) (i h:Int) (B:Nat),Blk w g 122 [.slice A n c,i,h]/\B<=g/\Reads zq 1 w B A n bs/\0<=i/\i<=n/\n<=9223372036854775806
def Drawn (w:World) (g:Nat) (w':World):Prop:=Cur w' g/\w.grownBy w' (some g)
theorem Drawn.lt {w w':World} {g:Nat} (h:Drawn w g w'):g<w'.heap.size:=by obtain⟨⟨A,n,c,bs,i,hh,B,hk,_⟩,_⟩:=h;exact hk.lt
theorem Drawn.trans {w w1 w2:World} {g:Nat} (h:Drawn w g w1) (k:Drawn w1 g w2):Drawn w g w2:=
 ⟨k.1,⟨k.2.os.trans h.2.os,k.2.tape.trans h.2.tape,k.2.output.trans h.2.output,du h.2.size k.2.size,λi hi hn=>(k.2.block i (db hi h.2.size) hn).trans (h.2.block i hi hn)⟩⟩
theorem Cur.lt {w:World} {g:Nat} (h:Cur w g):g<w.heap.size:=by obtain⟨A,n,c,bs,i,hh,B,hk,_⟩:=h;exact hk.lt
theorem Cur.below {w w':World} {g:Nat} (h:Cur w g) (hb:Below w.heap.size w w'):Cur w' g:=by obtain⟨A,n,c,bs,i,hh,B,hk,hB,hr,h4⟩:=h;exact⟨A,n,c,bs,i,hh,B,hk.below hb hk.lt,hB,hr.below (hb.mono (by have:=hk.lt;omega)),h4⟩
theorem Drawn.below {w w1 w2:World} {g:Nat} (h:Drawn w g w1) (hb:Below w1.heap.size w1 w2):Drawn w g w2:=⟨h.1.below hb,PT h.2 hb⟩
theorem Cur.own (h:Cur w g) (hb:Below B w w') (hg:g<B):Cur w' g:=by obtain⟨A,n,c,bs,i,hh,B',hk,hB,hr,h4⟩:=h;exact⟨A,n,c,bs,i,hh,B',hk.below hb hg,hB,hr.below (hb.mono dP),h4⟩
theorem Drawn.own {w w1 w2:World} {g:Nat} (h:Drawn w g w1) (hb:Below w.heap.size w1 w2) (hg:g<w.heap.size):Drawn w g w2:=⟨h.1.own hb hg,Vs h.2 hb⟩
theorem Drawn.refl (h:Cur w g):Drawn w g w:=⟨h,A8 _ _⟩
def encS (s:Str):List Value:=[sv s]
def mR (i:Int):List Value:=[.int .i64 i]
theorem gW (s:Str):(encS s).length=1:=rfl
theorem iu (s:Int):(mR s).length=1:=rfl
theorem iK (e:Str):∀u∈encS e,u.oneCell'=true:=by simp [encS,Value.oneCell']
theorem sP (e:Int):∀u∈mR e,u.oneCell'=true:=by simp [mR,Value.oneCell']
theorem Reads.atS {l:List Str} (h:Reads encS 1 w B A n l) (hk:k<n):
 ∃b off,∃x:Str,A=some ⟨b,off,none⟩/\b<B/\l[k]?=some x/\w.cell? ⟨b,off+k,none⟩=some (sv x):=by
 obtain⟨b,off,x,e,hb,hx,hc⟩:=h.at_ hk;have:=hc 0 _ rfl;rw[cu]at this;exact⟨b,off,x,e,hb,hx,this⟩
theorem Reads.atI {l:List Int} (h:Reads mR 1 w B A n l) (hk:k<n):
 ∃b off,∃x:Int,A=some ⟨b,off,none⟩/\b<B/\l[k]?=some x/\w.cell? ⟨b,off+k,none⟩=some (.int .i64 x):=by
 obtain⟨b,off,x,e,hb,hx,hc⟩:=h.at_ hk;have:=hc 0 _ rfl;rw[cu]at this;exact⟨b,off,x,e,hb,hx,this⟩
def ZW (c:UInt8):Bool:=decide (33<=c.toNat/\c.toNat<=126/\c.toNat≠96)
def isNm (s:Str):Bool:=s.all ZW&&decide (1<=s.length/\s.length<=20)
theorem nN {p:α->Bool} {s:List α} {c:α} (h:s[k]?=some c) (hb:p c=false):s.all p=false:=by rw[List.all_eq_false];exact⟨c,aA h,by simp [hb]⟩
theorem iY {p:α->Bool} {s:List α} {c:α} (h:s[k]?=some c) (ha:(s.take k).all p=true) (hb:p c=true):(s.take (k+1)).all p=true:=by rw[eJ h,List.all_append,ha];simp [hb]
theorem jK (s:Str) (w:World) (hs:s.length<=maxLen):
 Calls prog 61 #[sv s] w λe w'=>e= .returned (.bool (isNm s))/\w=w':=by
 unfold maxLen at hs;go_enter func61,ntmps61;go_wp2;go_loop [3] (λi=>∃(k:Nat),k<=s.length/\i= .int .i64 k/\(s.take k).all ZW=true) (λi=>s.length - (intOf i).toNat)
 case atStart=>exact⟨0,by omega,rfl,by simp⟩
 case round=>
  obtain⟨k,hk,rfl,hf⟩:=hrel;have HF:=aa hf;clear hf;by_cases hlt:k<s.length
  ·exact G_
  ·obtain rfl:k=s.length:=dP;have hf:=HF.out;rw[cC]at hf;have HG:=aa hf;clear hf HF;by_cases h1:1<=(s.length:Int)
   ·go_wp2;go_ret;exact⟨dZ (by rw[isNm,HG.out,aj,dL];omega),rfl⟩
   ·go_wp2;go_ret;exact⟨dZ (by rw[isNm,HG.out,aj,eq_comm,bB];omega),rfl⟩
theorem gj (x a b:Int) (w:World):Calls prog 68 #[x,a,b] w λe w'=>e= .returned (.bool (decide (a<=x/\x<=b)))/\w=w':=by
 by_cases h:a<=x
 ·go_enter func68,ntmps68;go_wp2;go_ret;exact⟨dZ (by simp [h]),rfl⟩
 ·go_enter func68,ntmps68;go_wp2;go_ret;exact⟨dZ dS,rfl⟩
theorem jL (s:Str) (w:World) (hs:s.length<=maxLen):
 Calls prog 65 #[sv s] w λe w'=>e= .returned (.bool (isNm s))/\w=w':=by
 unfold maxLen at hs;go_enter func65,ntmps65;go_wp2;go_loop [3] (λi=>∃(k:Nat),k<=s.length/\i= .int .i64 k/\(s.take k).all ZW=true) (λi=>s.length - (intOf i).toNat)
 case atStart=>exact⟨0,by omega,rfl,by simp⟩
 case round=>
  obtain⟨k,hk,rfl,hf⟩:=hrel;have HF:=aa hf;clear hf;by_cases hlt:k<s.length
  ·exact G_
  ·obtain rfl:k=s.length:=dP;have hf:=HF.out;rw[cC]at hf;have HG:=aa hf;clear hf HF;go_wp2_with (go_at_call 68;refine(gj _ _ _ _).mono ?_;rintro e w1 ⟨rfl,rfl⟩);go_ret;exact⟨dZ (by rw[isNm,HG.out,aj,<-Bool.decide_and,dL];omega),rfl⟩
def ix:List Str->Str->Nat->Int
 |[],_,_=> -1
 |e::t,iU,i=>if e=iU then i else ix t iU (i+1)
theorem Yd (l:List Str) (k:Nat) (e iU:Str) (h:l[k]?=some e):ix (l.drop k) iU k=if e=iU then (k:Int) else ix (l.drop (k+1)) iU (k+1):=by obtain⟨hk,he⟩:=ay.1 h;rw[cR hk,he,ix]
theorem UW (l:List Str) (iU:Str) (i:Nat):decide (0<=ix l iU i)=l.contains iU:=by
 induction l generalizing i with
 |nil=>simp [ix]
 |cons a t ih=>
  rw[ix,List.contains_cons];by_cases h:a=iU
  ·simp [h]
  ·rw[aH h,ih];have:(iU==a)=false:=by simp;exact λh'=>h h'.symm
   rw[this];rfl
theorem pY (l:List Str) (iU:Str) (i:Nat): -1<=ix l iU i/\ix l iU i<i+l.length:=by
 induction l generalizing i with
 |nil=>simp [ix];omega
 |cons a t ih=>rw[ix];have:=ih (i+1);split<;>simp<;>omega
theorem jx (A:Option Addr) (len cap:Nat) (l:List Str) (iU:Str) (w:World) (hr:Reads encS 1 w w.heap.size A len l) (gK:len<=maxLen):
 Calls prog 102 #[.slice A len cap,sv iU] w λe w'=>e= .returned (.int .i64 (ix l iU 0))/\w=w':=by
 unfold maxLen at gK;go_enter func102,ntmps102;go_wp2;go_loop [9] (λi=>∃(k:Nat),k<=len/\i= .int .i64 k/\ix l iU 0=ix (l.drop k) iU k) (λi=>len - (intOf i).toNat)
 case atStart=>exact⟨0,by omega,rfl,rfl⟩
 case round=>
  obtain⟨k,hk,rfl,hf⟩:=hrel;have HF:=aa hf;clear hf;by_cases hlt:k<len
  ·exact GA
  ·exact Ge
theorem gG (A:Option Addr) (len cap:Nat) (l:List Str) (iU:Str) (w:World) (hr:Reads encS 1 w w.heap.size A len l) (gK:len<=maxLen):
 Calls prog 49 #[.slice A len cap,sv iU] w λe w'=>e= .returned (.int .i64 (ix l iU 0))/\w=w':=by
 unfold maxLen at gK;go_enter func49,ntmps49;go_wp2;go_loop [5] (λi=>∃(k:Nat),k<=len/\i= .int .i64 k/\ix l iU 0=ix (l.drop k) iU k) (λi=>len - (intOf i).toNat)
 case atStart=>exact⟨0,by omega,rfl,rfl⟩
 case round=>
  obtain⟨k,hk,rfl,hf⟩:=hrel;have HF:=aa hf;clear hf;by_cases hlt:k<len
  ·exact GA
  ·exact Ge
theorem Bx (A:Option Addr) (len cap:Nat) (l:List Str) (iU:Str) (w:World) (hr:Reads encS 1 w w.heap.size A len l) (gK:len<=maxLen):
 Calls prog 62 #[.slice A len cap,sv iU] w λe w'=>e= .returned (.bool (l.contains iU))/\w=w':=by
 go_enter func62,ntmps62;go_wp2_with fail;refine(jx A len cap l iU _ hr gK).mono ?_;rintro e w1 ⟨rfl,rfl⟩;go_wp2_with fail;go_ret;exact⟨dZ (UW l iU 0),rfl⟩
theorem Rq:(prog.info? 9).map (λi=>(i.zero,i.size,i.bytes))=some (some (sv []),1,16):=dU
theorem jm:ElemTy prog 25 9 1 16:=by obtain⟨i0,DI,rJ,tW,hz2⟩:=cZ Rq;exact⟨i0,_,underlying25,DI,rJ,tW,hz2,rfl,by omega⟩
abbrev TV (w:World) (base:Nat) (A:Option Addr) (n c:Nat) (l:List Str):Prop:=Own encS 1 9 w base A n c l
def mid (s:Str):Str:=(s.drop 2).take (s.length - 3 - 2)
theorem ls (w:World) (B:Nat) (l:List Str) (cs:List Value):rep w B (.sl (l.map .s)) cs↔∃(A:Option Addr) (n c:Nat),cs=[.slice A n c]/\n<=c/\c<=maxLen/\Reads encS 1 w B A n l/\∀x∈l,x.length<=maxLen:=
 EP (λx cs=>by rw[rep];rfl) gW l cs
theorem qy (w:World) (B:Nat) (l:List Int) (cs:List Value):rep w B (.sl (l.map (.i .i64))) cs↔∃(A:Option Addr) (n c:Nat),cs=[.slice A n c]/\n<=c/\c<=maxLen/\Reads mR 1 w B A n l/\∀x∈l,(Lit.int .i64 x).wf=true:=
 EP (λx cs=>by rw[rep];rfl) iu l cs
theorem kP {n:Int}:(Lit.int .i64 n).wf=true↔ -9223372036854775808<=n/\n<=9223372036854775807:=by simp [Lit.wf,IntKind.min,IntKind.max,IntKind.signed,IntKind.bits]
structure Item where
 num:Int
 den:Int
 text:Str
 deriving DecidableEq
def Item.toD (x:Item):D:= .st [.i .i64 x.num,.i .i64 x.den,.s x.text]
def encItem (x:Item):List Value:=[.int .i64 x.num,.int .i64 x.den,sv x.text]
theorem nW (x:Item):(encItem x).length=3:=rfl
theorem uY (x:Item):∀u∈encItem x,u.oneCell'=true:=by simp [encItem,Value.oneCell']
def itOK (x:Item):Prop:=(Lit.int .i64 x.num).wf=true/\(Lit.int .i64 x.den).wf=true/\x.text.length<=maxLen
theorem VN (w:World) (B:Nat) (x:Item) (cs:List Value):rep w B x.toD cs↔cs=encItem x/\itOK x:=by
 unfold Item.toD encItem itOK;rw[rep];constructor
 ·rintro⟨css,rfl,h⟩;rw[gb]at h;obtain⟨c0,css,rfl,k0,h⟩:=h;rw[gb]at h;obtain⟨c1,css,rfl,k1,h⟩:=h;rw[gb]at h;obtain⟨c2,css,rfl,k2,h⟩:=h;rw[gb]at h;subst h;rw[rep]at k0;rw[rep]at k1;rw[rep]at k2;rw[k0.1,k1.1,k2.1];exact⟨rfl,k0.2,k1.2,k2.2⟩
 ·rintro⟨rfl,h0,h1,h2⟩;exact⟨[[.int .i64 x.num],[.int .i64 x.den],[sv x.text]],rfl,jW.2 ⟨by rw[rep];exact⟨rfl,h0⟩,jW.2 ⟨by rw[rep];exact⟨rfl,h1⟩,jW.2 ⟨by rw[rep];exact⟨rfl,h2⟩,EO⟩⟩⟩⟩
theorem NS (w:World) (B:Nat) (l:List Item) (cs:List Value):rep w B (.sl (l.map Item.toD)) cs↔∃(A:Option Addr) (n c:Nat),cs=[.slice A n c]/\n<=c/\c<=maxLen/\Reads encItem 3 w B A n l/\∀x∈l,itOK x:=
 EP (VN w B) nW l cs
theorem Reads.at3 {l:List Item} (h:Reads encItem 3 w B A n l) (hk:k<n):
 ∃b off x,A=some ⟨b,off,none⟩/\b<B/\l[k]?=some x/\w.cell? ⟨b,off+k*3,none⟩=some (.int .i64 x.num)/\w.cell? ⟨b,off+k*3+1,none⟩=some (.int .i64 x.den)/\w.cell? ⟨b,off+k*3+2,none⟩=some (sv x.text):=by
 obtain⟨b,off,x,e,hb,hx,hc⟩:=h.at_ hk;exact⟨b,off,x,e,hb,hx,hc 0 _ rfl,hc 1 _ rfl,hc 2 _ rfl⟩
structure Vec where
 kind:Int
 items:List Item
 parts:List Vec
 names:List Str
 cls:List Str
 levels:List Str
 code:Int
 env:Int
mutual
def Vec.toD:Vec->D
 |⟨k,i,p,n,c,l,cd,e⟩=> .st [.i .i64 k,.sl (i.map Item.toD),.sl (Vec.toDs p),.sl (n.map .s),.sl (c.map .s),.sl (l.map .s),.i .i64 cd,.i .i64 e]
def Vec.toDs:List Vec->List D
 |[]=>[]
 |v::t=>v.toD::Vec.toDs t
end
theorem V6 (l:List Vec):Vec.toDs l=l.map Vec.toD:=by
 induction l with
 |nil=>rw[Vec.toDs];rfl
 |cons a t ih=>rw[Vec.toDs,ih];rfl
theorem V5 (v:Vec):v.toD= .st [.i .i64 v.kind,.sl (v.items.map Item.toD),.sl (v.parts.map Vec.toD),.sl (v.names.map .s),.sl (v.cls.map .s),.sl (v.levels.map .s),.i .i64 v.code,.i .i64 v.env]:=by cases v;rw[Vec.toD,V6]
abbrev vc (v:Vec) (Ai:Option Addr) (ni ci:Nat) (Ap:Option Addr) (np cp:Nat) (An:Option Addr) (nn cn:Nat) (Ac:Option Addr) (nc cc:Nat) (Al:Option Addr) (nl cl:Nat):List Value:=
 [v.kind,.slice Ai ni ci,.slice Ap np cp,.slice An nn cn,.slice Ac nc cc,.slice Al nl cl,v.code,v.env]
structure VR (w:World) (B:Nat) (v:Vec) (Ai:Option Addr) (ni ci:Nat) (Ap:Option Addr) (np cp:Nat) (An:Option Addr) (nn cn:Nat) (Ac:Option Addr) (nc cc:Nat) (Al:Option Addr) (nl cl:Nat):Prop where
 wk:(Lit.int .i64 v.kind).wf=true
 wc:(Lit.int .i64 v.code).wf=true
 we:(Lit.int .i64 v.env).wf=true
 it:Reads encItem 3 w B Ai ni v.items
 ito:∀x∈v.items,itOK x
 itb:ni<=ci/\ci<=maxLen
 pa:rep w B (.sl (v.parts.map Vec.toD)) [.slice Ap np cp]
 pab:np<=cp/\cp<=maxLen/\v.parts.length=np
 na:Reads encS 1 w B An nn v.names
 nao:∀x∈v.names,x.length<=maxLen
 nab:nn<=cn/\cn<=maxLen
 ca:Reads encS 1 w B Ac nc v.cls
 cao:∀x∈v.cls,x.length<=maxLen
 cab:nc<=cc/\cc<=maxLen
 la:Reads encS 1 w B Al nl v.levels
 lao:∀x∈v.levels,x.length<=maxLen
 lab:nl<=cl/\cl<=maxLen
theorem ef {xs:List D} (h:rep w B (.sl xs) [.slice A n c]):xs.length=n/\n<=c/\c<=maxLen:=by
 rw[rep]at h;obtain⟨A',n',c',s,fB,he,h1,h2,h3,h4⟩:=h;injection he with he;injection he with e1 e2 e3;subst e1 e2 e3
 exact⟨by rw[vO h4,au];exact h3.len,h1,h2⟩
theorem fD {xs:List D} (h:rep w B (.sl xs) cs):∃A n c,cs=[.slice A n c]:=by rw[rep]at h;obtain⟨A',n',c',s,fB,he,_⟩:=h;exact⟨_,_,_,he⟩
theorem Rp {f:α->D} {l:List α} (h:rep w B (.sl (l.map f)) [.slice A n c]) (hk:k<n):
 ∃b off x cs,A=some ⟨b,off,none⟩/\b<B/\l[k]?=some x/\rep w B (f x) cs/\∀j u,cs[j]?=some u->w.cell? ⟨b,off+k*cs.length+j,none⟩=some u:=by
 rw[rep]at h;obtain⟨A',n',c',s,fB,he,h1,h2,h3,h4⟩:=h;injection he with he;injection he with e1 e2 e3;subst e1 e2 e3
 have hl:=vO h4;simp only[au]at hl;have hlr:=h3.len;have hx:l[k]?=some (l[k]' dP):=aw dP;obtain⟨b,off,r,e,hb,hr,hc⟩:=h3.at_ hk;have hxr:=CI h4 (k:=k) (d:=f (l[k]' dP)) (cs:=r.v) iF (by simp [hr]);exact⟨b,off,_,r.v,e,hb,hx,hxr,λj u hu=>by rw[Row.len];exact hc j u hu⟩
theorem iy {v:Vec} (h:rep w B v.toD cs):
 ∃Ai ni ci Ap np cp An nn cn Ac nc cc Al nl cl,cs=vc v Ai ni ci Ap np cp An nn cn Ac nc cc Al nl cl/\VR w B v Ai ni ci Ap np cp An nn cn Ac nc cc Al nl cl:=by
 rw[V5,rep]at h;obtain⟨css,rfl,h⟩:=h;rw[gb]at h;obtain⟨c0,css,rfl,k0,h⟩:=h;rw[gb]at h;obtain⟨c1,css,rfl,k1,h⟩:=h;rw[gb]at h;obtain⟨c2,css,rfl,k2,h⟩:=h;rw[gb]at h;obtain⟨c3,css,rfl,k3,h⟩:=h;rw[gb]at h;obtain⟨c4,css,rfl,k4,h⟩:=h;rw[gb]at h;obtain⟨c5,css,rfl,k5,h⟩:=h;rw[gb]at h;obtain⟨c6,css,rfl,k6,h⟩:=h;rw[gb]at h;obtain⟨c7,css,rfl,k7,h⟩:=h;rw[gb]at h;subst h;rw[rep]at k0;rw[rep]at k6;rw[rep]at k7;obtain⟨rfl,k0⟩:=k0;obtain⟨rfl,k6⟩:=k6;obtain⟨rfl,k7⟩:=k7;obtain⟨Ai,ni,ci,rfl,a1,a2,a3,a4⟩:=(NS _ _ _ _).1 k1;obtain⟨Ap,np,cp,rfl⟩:=fD k2;obtain⟨An,nn,cn,rfl,n1,n2,n3,n4⟩:=(ls _ _ _ _).1 k3;obtain⟨Ac,nc,cc,rfl,b1,b2,b3,b4⟩:=(ls _ _ _ _).1 k4;obtain⟨Al,nl,cl,rfl,l1,l2,l3,l4⟩:=(ls _ _ _ _).1 k5;have hp:=ef k2;exact⟨Ai,ni,ci,Ap,np,cp,An,nn,cn,Ac,nc,cc,Al,nl,cl,rfl,k0,k6,k7,a3,a4,⟨a1,a2⟩,k2,⟨hp.2.1,hp.2.2,by simpa using hp.1⟩,n3,n4,⟨n1,n2⟩,b3,b4,⟨b1,b2⟩,l3,l4,⟨l1,l2⟩⟩
theorem rz {l:List Vec} (h:rep w B (.sl (l.map Vec.toD)) [.slice A n c]) (hk:k<n):
 ∃b off x Ai ni ci Ap np cp An nn cn Ac nc cc Al nl cl,A=some ⟨b,off,none⟩/\b<B/\l[k]?=some x/\rep w B x.toD (vc x Ai ni ci Ap np cp An nn cn Ac nc cc Al nl cl)/\VR w B x Ai ni ci Ap np cp An nn cn Ac nc cc Al nl cl/\
  w.cell? ⟨b,off+k*8,none⟩=some (.int .i64 x.kind)/\w.cell? ⟨b,off+k*8+1,none⟩=some (.slice Ai ni ci)/\w.cell? ⟨b,off+k*8+2,none⟩=some (.slice Ap np cp)/\w.cell? ⟨b,off+k*8+3,none⟩=some (.slice An nn cn)/\
  w.cell? ⟨b,off+k*8+4,none⟩=some (.slice Ac nc cc)/\w.cell? ⟨b,off+k*8+5,none⟩=some (.slice Al nl cl)/\w.cell? ⟨b,off+k*8+6,none⟩=some (.int .i64 x.code)/\w.cell? ⟨b,off+k*8+7,none⟩=some (.int .i64 x.env):=by
 rw[rep]at h;obtain⟨A',n',c',s,fB,he,h1,h2,h3,h4⟩:=h;injection he with he;injection he with e1 e2 e3;subst e1 e2 e3
 have hl:=vO h4;simp only[au]at hl;have hlr:=h3.len;have hx:l[k]?=some (l[k]' dP):=aw dP;obtain⟨b,off,r,e,hb,hr,hc⟩:=h3.at_ hk;have hxr:=CI h4 (k:=k) (d:=(l[k]' dP).toD) (cs:=r.v) iF (by simp [hr]);obtain⟨Ai,ni,ci,Ap,np,cp,An,nn,cn,Ac,nc,cc,Al,nl,cl,lK,hv⟩:=iy hxr;have hs:s=8:=by rw[<-Row.len r,lK];rfl
 subst hs;rw[lK]at hc hxr;exact⟨b,off,_,Ai,ni,ci,Ap,np,cp,An,nn,cn,Ac,nc,cc,Al,nl,cl,e,hb,hx,hxr,hv,hc 0 _ rfl,hc 1 _ rfl,hc 2 _ rfl,hc 3 _ rfl,hc 4 _ rfl,hc 5 _ rfl,hc 6 _ rfl,hc 7 _ rfl⟩
theorem SY (src dst e:TypeId) (hs:P.underlying src=some (.slice e)) (he:P.underlying e=some (.int .u8)) (hd:P.underlying dst=some .string) (W:World) (n:Int):
 (convert src dst (.slice (some ⟨W.heap.size,0,none⟩) 1 1)).run P (W.alloc (.cells #[.int .u8 n] e))= .ok (sv [UInt8.ofNat n.toNat]) (W.alloc (.cells #[.int .u8 n] e)):=by
 rw[run_convert_bytes_string _ src dst e _ 1 1 hs he hd,run_bytesToString _ ⟨W.heap.size,0,none⟩ 1 1 [n]]
 ·rfl
 ·have:=run_loadCells_list (P:=P) (w:=W.alloc (.cells #[.int .u8 n] e)) ⟨W.heap.size,0,none⟩ [.int .u8 n] (λj v hj=>by
   match j,hj with
   |0,hj=>simp at hj;subst hj;exact(Blk.new_ W e _).cell 0
   |j+1,hj=>simp at hj)
  simpa using this
def xM:Nat->Nat->Str->Str
 |0,_,s=>s
 |f+1,k,s=>if k=0 then s else xM f (k/10) ((48+UInt8.ofNat (k % 10))::s)
theorem T6 (f g k:Nat) (s:Str) (h:k<=f) (h':k<=g):xM f k s=xM g k s:=by
 induction f generalizing g k s with
 |zero=>
  have:k=0:=dP;subst this;cases g<;>simp [xM]
 |succ f ih=>
  cases g with
  |zero=>
   have:k=0:=dP;subst this;simp [xM]
  |succ g=>
   rw[xM,xM];split
   ·rfl
   ·exact ih _ _ _ dP dP
theorem Du (k:Nat) (s:Str) (h:0<k):xM k k s=xM (k/10) (k/10) ((48+UInt8.ofNat (k % 10))::s):=by obtain⟨f,rfl⟩:∃f,k=f+1:=⟨k - 1,by omega⟩;rw[xM,aH dP];exact T6 _ _ _ _ dP dP
def mk (k:Nat):Str:=if k=0 then[109,48] else 109::xM k k []
theorem Lm (k:Nat) (w:World) (hk:(k:Int)<=1152921504606846976):
 Calls prog 74 #[k] w λe w'=>e= .returned (sv (mk k))/\Below w.heap.size w w':=by
 by_cases h0:k<=0
 ·go_enter func74,ntmps74;go_wp2;go_ret;exact⟨mK (by rw[mk,aN dP]),Below.refl _ _⟩
 ·have hd:decide ((k:Int)<=0)=false:=dS;have AA:=SY (P:=prog) 22 9 5 underlying22 underlying5 underlying9;go_enter func74,ntmps74;go_wp2;go_loopw [0,3] (λi v wr=>∃(j:Nat) (s:Str),s.length+j<=k/\i= .int .i64 j/\v=sv s/\xM k k []=xM j j s/\Below w.heap.size w wr) (λi _ _=>(intOf i).toNat)
  case atStart=>exact⟨k,[],by simp,rfl,rfl,rfl,Below.refl _ _⟩
  case round=>
   obtain⟨j,s,hj,rfl,rfl,Zx,hb⟩:=hrel;have HD:=aa Zx;clear Zx;by_cases hlt:0<j
   ·go_wp2;go_roundw
    case rel=>exact⟨j/10,_,by simp;omega,by go_num,rfl,by rw[HD.out,Du j s hlt],hb.alloc hb.size _⟩
    case measure=>simp [intOf];omega
   ·obtain rfl:j=0:=dP;go_wp2;go_ret;exact⟨mK (by rw[mk,aH dP,HD.out];rfl),hb⟩
theorem QH:∀(f k:Nat) (s:Str),(xM f k s).length<=f+s.length
 |0,_,_=>by rw[xM];omega
 |f+1,k,s=>by
  rw[xM];split
  ·omega
  ·have:=QH f (k/10) ((48+UInt8.ofNat (k % 10))::s);simp only[bU]at this;omega
theorem abR (k:Nat):(mk k).length<=k+2:=by
 unfold mk;split
 ·simp
 ·have:=QH k k [];simp only[bU,bf]at this ⊢;omega
theorem Ip (A A':Option Addr) (len Ef cap aaJ:Nat) (l l':List Str) (w:World) (hr:Reads encS 1 w w.heap.size A len l) (hr':Reads encS 1 w w.heap.size A' Ef l') (gK:len<=maxLen) (jP:Ef<=maxLen):
 Calls prog 72 #[.slice A len cap,.slice A' Ef aaJ] w λe w'=>e= .returned (.bool (l==l'))/\Below w.heap.size w w':=by
 unfold maxLen at gK jP;by_cases hn:len=Ef
 ·subst hn;have hd:((len:Int) != (len:Int))=false:=dR;go_enter func72,ntmps72;go_wp2;go_loopw [5] (λi wr=>∃(k:Nat),k<=len/\i= .int .i64 k/\l.take k=l'.take k/\Below w.heap.size w wr) (λi _=>len - (intOf i).toNat)
  case atStart=>exact⟨0,by omega,rfl,by simp,Below.refl _ _⟩
  case round=>
   obtain⟨k,hk,rfl,hf,hb⟩:=hrel;have HF:=aa hf;clear hf;by_cases hlt:k<len
   ·obtain⟨b,off,x,rfl,gD,hx,xO⟩:=(hr.below hb).atS hlt;obtain⟨b',qv,x',rfl,XC,qD,ag_⟩:=(hr'.below hb).atS hlt;have HX:=aa hx;have HX':=aa qD;clear hx qD;have i1:(0:Int)<=(k:Int):=dP;have i2:(k:Int)<(len:Int):=dP;go_wp2;go_quiet (fail);go_wp2
    ·go_ret;have hq:=abV (a:=x) (b:=x') lg;exact⟨dZ (ZU HX.out HX'.out hq).symm,pS hb _⟩
    ·have hq:=Yt (a:=x) (b:=x') lg;go_roundw
     case rel=>exact⟨k+1,by omega,by go_num,by rw[eJ HX.out,eJ HX'.out,HF.out,hq],pS hb _⟩
     case measure=>simp [intOf];omega
   ·exact GF
 ·have hd:((len:Int) != (Ef:Int))=true:=dS;go_enter func72,ntmps72;go_wp2;go_ret;exact⟨dZ (JT (by rw[hr.len,hr'.len];exact hn)).symm,Below.refl _ _⟩
theorem neI {x:Int} (h:(x != y)=true):¬x=y:=lj
theorem eqI {x:Int} (h:(x != y)=false):x=y:=lj
def YV:List Str->Int->Int
 |[],n=>n
 |e::t,n=>if n<e.length then -1 else YV t (n - e.length)
def Tc (l:List Str) (n:Int):Int:=if n<l.length then -1 else YV l (n - l.length)
theorem V4 (l:List Str) (k:Nat) (e:Str) (r:Int) (h:l[k]?=some e):YV (l.drop k) r=if r<e.length then -1 else YV (l.drop (k+1)) (r - e.length):=by obtain⟨hk,he⟩:=ay.1 h;rw[cR hk,he,YV]
theorem I6 (A:Option Addr) (len cap:Nat) (l:List Str) (n:Int) (w:World) (hr:Reads encS 1 w w.heap.size A len l) (hs:∀e∈l,e.length<=maxLen) (gK:len<=maxLen) (h0:0<=n) (h1:n<=1048576):
 Calls prog 84 #[.slice A len cap,n] w λe w'=>e= .returned (.int .i64 (Tc l n))/\w=w':=by
 unfold maxLen at gK;by_cases hn:n<len
 ·go_enter func84,ntmps84;go_wp2;go_ret;exact⟨eZ (by rw[Tc,hr.len,aN hn]),rfl⟩
 ·have hd:decide (n - (len:Int)<0)=false:=dS;go_enter func84,ntmps84;go_wp2;go_loop [1,5] (λm i=>∃(k:Nat) (r:Int),k<=len/\i= .int .i64 k/\m= .int .i64 r/\0<=r/\r<=1048576/\Tc l n=YV (l.drop k) r) (λ_ i=>len - (intOf i).toNat)
  case atStart=>exact⟨0,n - len,by omega,rfl,rfl,by omega,by omega,by rw[Tc,hr.len,aH dP];rfl⟩
  case round=>
   obtain⟨k,r,hk,rfl,rfl,QS,WE,kD⟩:=hrel;have HS:=aa kD;clear kD;by_cases hlt:k<len
   ·obtain⟨b,off,x,rfl,gD,hx,xO⟩:=hr.atS hlt;have hm:x.length<=9223372036854775807:=hs _ (aA hx);have HD:=aa (V4 l k _ r hx);clear hx;by_cases hq:r<x.length
    ·go_wp2;go_ret;exact⟨eZ (by rw[HS.out,HD.out,aN hq]),rfl⟩
    ·go_wp2;go_round
     case rel=>exact⟨k+1,_,by omega,by go_num,rfl,by omega,by omega,by rw[HS.out,HD.out,aH hq]⟩
     case measure=>simp [intOf];omega
   ·obtain rfl:len=k:=dP;go_wp2;go_ret;exact⟨eZ (by rw[HS.out,cM (by rw[hr.len];omega)];rfl),rfl⟩
theorem CB:(prog.info? 3).map (λi=>(i.zero,i.size,i.bytes))=some (some (.int .i64 0),1,8):=dU
theorem I8 (A:Option Addr) (len cap:Nat) (l:List Str) (w:World) (hr:Reads encS 1 w w.heap.size A len l) (gK:len<=1048576):
 Calls prog 88 #[.slice A len cap] w λe w'=>∃g,e= .returned (.slice (some ⟨g,0,none⟩) len len)/\TV w' w.heap.size (some ⟨g,0,none⟩) len len l/\Below w.heap.size w w':=by
 obtain⟨i0,DI,rJ,tW,hz2⟩:=cZ Rq;have xx:=λW=>iw (P:=prog) 25 9 i0 _ underlying25 DI rJ .i64 .i64 len len (af _) jj dP W;rw[tW,cu]at xx;go_enter func88,ntmps88;go_wp2;clear xx;go_loopw [4] (λi wr=>∃(k:Nat),k<=len/\i= .int .i64 k/\Fil wr w.heap.size 9 len k ((l.take k).flatMap encS)/\Below w.heap.size w wr) (λi _=>len - (intOf i).toNat)
 case atStart=>exact⟨0,by omega,rfl,by simpa using Fil.start w 9 (madeCells #[sv []] len) len (size_madeCells _ _),(Below.refl _ _).alloc (af _) _⟩
 case round=>
  obtain⟨k,hk,rfl,hf,hb⟩:=hrel;by_cases hlt:k<len
  ·obtain⟨b,off,x,rfl,gD,hx,xO⟩:=(hr.below hb).atS hlt;have HX:=aa hx;clear hx;obtain⟨u0,hu0⟩:=hf.cell k dP;have rJ:=hf.frozen k;go_wp2;have hf2:=hf.put dP (sv x);go_roundw
   case rel=>exact⟨k+1,by omega,by go_num,by rw[eJ HX.out,cj];simpa [encS]using hf2,hb.setCell (p:=⟨w.heap.size,k,none⟩) (af _) _⟩
   case measure=>simp [intOf];omega
  ·obtain rfl:len=k:=dP;rw[aC (by rw[hr.len];omega)]at hf;have Zy:Fil wr w.heap.size 9 (len*1) (len*1) (l.flatMap encS):=by simpa using hf
   go_wp2;go_ret;exact⟨_,rfl,Zy.own gW hr.len (af _) eb (af _),hb⟩
theorem Pc (A A':Option Addr) (len Ef cap aaJ:Nat) (l l':List Int) (w:World) (hr:Reads mR 1 w w.heap.size A len l) (hr':Reads mR 1 w w.heap.size A' Ef l') (gK:len<=maxLen) (jP:Ef<=maxLen):
 Calls prog 73 #[.slice A len cap,.slice A' Ef aaJ] w λe w'=>e= .returned (.bool (l==l'))/\Below w.heap.size w w':=by
 unfold maxLen at gK jP;by_cases hn:len=Ef
 ·subst hn;have hd:((len:Int) != (len:Int))=false:=dR;go_enter func73,ntmps73;go_wp2;go_loopw [5] (λi wr=>∃(k:Nat),k<=len/\i= .int .i64 k/\l.take k=l'.take k/\Below w.heap.size w wr) (λi _=>len - (intOf i).toNat)
  case atStart=>exact⟨0,by omega,rfl,by simp,Below.refl _ _⟩
  case round=>
   obtain⟨k,hk,rfl,hf,hb⟩:=hrel;have HF:=aa hf;clear hf;by_cases hlt:k<len
   ·obtain⟨b,off,x,rfl,gD,hx,xO⟩:=(hr.below hb).atI hlt;obtain⟨b',qv,x',rfl,XC,qD,ag_⟩:=(hr'.below hb).atI hlt;have HX:=aa hx;have HX':=aa qD;clear hx qD;have i1:(0:Int)<=(k:Int):=dP;have i2:(k:Int)<(len:Int):=dP;go_wp2;go_quiet (fail);go_wp2
    ·go_ret;have hq:=neI (x:=x) (y:=x') lg;exact⟨dZ (ZU HX.out HX'.out hq).symm,pS hb _⟩
    ·have hq:=eqI (x:=x) (y:=x') lg;go_roundw
     case rel=>exact⟨k+1,by omega,by go_num,by rw[eJ HX.out,eJ HX'.out,HF.out,hq],pS hb _⟩
     case measure=>simp [intOf];omega
   ·exact GF
 ·have hd:((len:Int) != (Ef:Int))=true:=dS;go_enter func73,ntmps73;go_wp2;go_ret;exact⟨dZ (JT (by rw[hr.len,hr'.len];exact hn)).symm,Below.refl _ _⟩
mutual
def szD:D->Nat
 | .i _ _=>0
 | .b _=>0
 | .s x=>x.length
 | .st fs=>gv fs
 | .sl xs=>xs.length+gv xs
def gv:List D->Nat
 |[]=>0
 |x::t=>szD x+gv t
end
def jQ (s:Nat) (n:Int):Int:=if (s:Int)<=n then n - s else -1
theorem Aj (l l':List D):gv (l++l')=gv l+gv l':=by
 induction l with
 |nil=>simp [gv]
 |cons a t ih=>simp only[cK,gv,ih];omega
theorem Be {f:α->D} {l:List α} {x:α} (h:l[k]?=some x):gv ((l.take (k+1)).map f)=gv ((l.take k).map f)+szD (f x):=by rw[eJ h,aI,Aj];simp [gv]
theorem LK {f:α->D} (l:List α) (k:Nat):gv ((l.take k).map f)<=gv (l.map f):=by
 have h:l.map f=(l.take k).map f++(l.drop k).map f:=by rw[<-aI,cA]
 rw[h,Aj];omega
theorem rC {x:D}:∀{l:List D},x∈l->szD x<=gv l
 |[],h=>by simp at h
 |a::t,h=>by
  rw[gv];rcases aX.1 h with rfl|h
  ·omega
  ·have:=rC h;omega
theorem Q2 {a b:Nat} {n:Int} (h:(a:Int)<=n):jQ b (jQ a n)=jQ (a+b) n:=by
 unfold jQ;rw[aN h];by_cases hb:(b:Int)<=n - a
 ·rw[aN hb,aN dP];omega
 ·rw[aH hb,aH dP]
theorem Eg {a b:Nat} {n:Int} (h:n<(a:Int)):jQ (a+b) n= -1:=by unfold jQ;rw[aH dP]
theorem l8 {a:Nat} {n:Int} (h:(a:Int)<=n):jQ a n=n - a:=by unfold jQ;rw[aN h]
theorem aca (l:List Str) (n:Int) (h:0<=n):YV l n=jQ (gv (l.map .s)) n:=by
 induction l generalizing n with
 |nil=>simp [YV,gv,jQ,h]
 |cons a t ih=>
  rw[YV,br,gv,szD];split
  ·rw[Eg dP]
  ·rw[ih _ dP,<-Q2 (a:=a.length) dP,l8 (a:=a.length) dP]
theorem YW (l:List Str) (n:Int) (h:0<=n):Tc l n=jQ (szD (.sl (l.map .s))) n:=by
 rw[Tc,szD,au];split
 ·rw[Eg dP]
 ·rw[aca _ _ dP,<-Q2 (a:=l.length) dP,l8 (a:=l.length) dP]
theorem Bd {α:Type} {f:α->D} (hf:∀x,szD (f x)=0) (l:List α):gv (l.map f)=0:=by
 induction l with
 |nil=>rfl
 |cons a t ih=>rw[br,gv,ih,hf]
theorem r8 (l:List Str) (A:Option Addr) (len cap:Nat) (n:Int) (w:World) (h:rep w w.heap.size (.sl (l.map .s)) [.slice A len cap]) (h0:0<=n) (h1:n<=1048576):
 Calls prog 84 #[.slice A len cap,n] w λe w'=>e= .returned (.int .i64 (jQ (szD (.sl (l.map .s))) n))/\Below w.heap.size w w':=by
 obtain⟨A',n',c',he,h2,h3,h4,h5⟩:=(ls _ _ _ _).1 h;injection he with he;injection he with e1 e2 e3;subst e1 e2 e3
 rw[<-YW l n h0];exact(I6 A len cap l n w h4 h5 dP h0 h1).mono λ_ _ ⟨a,b⟩=>⟨a,b ▸ Below.refl _ _⟩
theorem VX {α:Type} {enc:α->List Value} {s:Nat} (mB:∀x,(enc x).length=s) (l:List α):(l.map (λx=>(⟨enc x,mB x⟩:Row s))).flatMap Row.v=l.flatMap enc:=by
 induction l with
 |nil=>rfl
 |cons a t ih=>rw[br,cB,cB,ih]
theorem Q7 {P:Program} {w:World} {α:Type} {f:α->D} {enc:α->List Value} {e:TypeId}:∀{l:List α},(∀x∈l,own P w (f x) e [] (enc x))->iv P w (l.map f) e [] (l.map enc)
 |[],_=>by rw[bL,iv];exact⟨rfl,rfl⟩
 |x::t,h=>by rw[br,br,iv];exact⟨[],[],_,_,rfl,rfl,h x aT,Q7 λy hy=>h y (aP _ hy)⟩
theorem zZ {f:α->D} {enc:α->List Value} {l:List α} (mB:∀x,(enc x).length=s) (ht:P.underlying t=some (.slice e)) (hs:P.cellsOf e=s)
 (h:Own enc s e w base A n c l) (hc:c<=maxLen) (hf:∀x∈l,own P w (f x) e [] (enc x)):own P w (.sl (l.map f)) t (oz A) [.slice A n c]:=by
 rw[own];refine⟨e,A,n,c,s,l.map (λx=>⟨enc x,mB x⟩),[],ht,hs,rfl,hc,?_,by simp,?_⟩
 ·have h2:=h.mono (dj _);exact⟨by simpa using h2.1,by rw[VX];exact h2.2⟩
 ·rw[List.map_map];exact Q7 hf
theorem Yz (x:Str) (F:List Nat) (cs:List Value) (h:own P w (.s x) e F cs):F=[]/\cs=encS x:=by rw[own]at h;exact⟨h.1,h.2.1⟩
theorem Vx {l:List Str} (h:TV w base A n c l) (hc:c<=maxLen) (hl:∀x∈l,x.length<=maxLen):own prog w (.sl (l.map .s)) 25 (oz A) [.slice A n c]:=
 zZ gW underlying25 dU h hc (λx hx=>by rw[own];exact⟨rfl,rfl,hl x hx⟩)
def oK (xs:List D) (t:TypeId) (w:World) (e:Ending) (w':World):Prop:=
 ∃(A:Option Addr) (n c:Nat) (F:List Nat),e= .returned (.slice A n c)/\own prog w' (.sl xs) t F [.slice A n c]/\Fresh w.heap.size F/\Below w.heap.size w w'
def gM (d:D) (t:TypeId) (w:World) (e:Ending) (w':World):Prop:=
 ∃(cs:List Value) (F:List Nat),e= .returned (.agg cs.toArray)/\own prog w' d t F cs/\Fresh w.heap.size F/\Below w.heap.size w w'
theorem r9 (l:List Str) (A:Option Addr) (len cap:Nat) (w:World) (h:rep w w.heap.size (.sl (l.map .s)) [.slice A len cap]) (hz:szD (.sl (l.map .s))<=1048576):
 Calls prog 88 #[.slice A len cap] w (oK (l.map .s) 25 w):=by
 obtain⟨A',n',c',he,h2,h3,h4,h5⟩:=(ls _ _ _ _).1 h;injection he with he;injection he with e1 e2 e3;subst e1 e2 e3
 rw[szD,au,h4.len]at hz;refine(I8 A len cap l w h4 dP).mono λe w' ⟨g,he,ho,hb⟩=>⟨_,_,_,_,he,Vx ho eb h5,Fresh.one ?_,hb⟩;intro x hx;exact(ho.lt' x hx).1
theorem rQ (l:List Str) (A A':Option Addr) (n n' c c':Nat) (w:World) (h:rep w w.heap.size (.sl (l.map .s)) [.slice A n c]) (h':rep w w.heap.size (.sl (l.map .s)) [.slice A' n' c']):
 Calls prog 72 #[.slice A n c,.slice A' n' c'] w λe w'=>e= .returned (.bool true)/\Below w.heap.size w w':=by
 obtain⟨A1,n1,c1,he,h2,h3,h4,h5⟩:=(ls _ _ _ _).1 h;injection he with he;injection he with e1 e2 e3;subst e1 e2 e3
 obtain⟨A1,n1,c1,he,k2,k3,k4,k5⟩:=(ls _ _ _ _).1 h';injection he with he;injection he with e1 e2 e3;subst e1 e2 e3
 have:=Ip A A' n n' c c' l l w h4 k4 dP dP
 rwa [show (l==l)=true by simp]at this
theorem MG (l:List Int) (A A':Option Addr) (n n' c c':Nat) (w:World) (h:rep w w.heap.size (.sl (l.map (.i .i64))) [.slice A n c]) (h':rep w w.heap.size (.sl (l.map (.i .i64))) [.slice A' n' c']):
 Calls prog 73 #[.slice A n c,.slice A' n' c'] w λe w'=>e= .returned (.bool true)/\Below w.heap.size w w':=by
 obtain⟨A1,n1,c1,he,h2,h3,h4,h5⟩:=(qy _ _ _ _).1 h;injection he with he;injection he with e1 e2 e3;subst e1 e2 e3
 obtain⟨A1,n1,c1,he,k2,k3,k4,k5⟩:=(qy _ _ _ _).1 h';injection he with he;injection he with e1 e2 e3;subst e1 e2 e3
 have:=Pc A A' n n' c c' l l w h4 k4 dP dP
 rwa [show (l==l)=true by simp]at this
theorem pQ (x:Item):x.toD= .st [.i .i64 x.num,.i .i64 x.den,.s x.text]:=qf
theorem qH {x:Item} (h:rep w B x.toD cs):∃(_:Unit),cs=[.int .i64 x.num,.int .i64 x.den,sv x.text]/\(Lit.int .i64 x.num).wf=true/\(Lit.int .i64 x.den).wf=true/\x.text.length<=maxLen:=by rw[pQ,rep]at h;obtain⟨css,rfl,h⟩:=h;rw[gb]at h;obtain⟨c0,css,rfl,k0,h⟩:=h;rw[gb]at h;obtain⟨c1,css,rfl,k1,h⟩:=h;rw[gb]at h;obtain⟨c2,css,rfl,k2,h⟩:=h;rw[gb]at h;subst h;rw[rep]at k0;obtain⟨rfl,k0⟩:=k0;rw[rep]at k1;obtain⟨rfl,k1⟩:=k1;rw[rep]at k2;obtain⟨rfl,k2⟩:=k2;exact⟨(),rfl,k0,k1,k2⟩
theorem uR {x:Item} (Wb:(Lit.int .i64 x.num).wf=true) (V_:(Lit.int .i64 x.den).wf=true) (Kk:x.text.length<=maxLen):own prog w x.toD 135 ([]) [x.num,x.den,sv x.text]:=by rw[pQ,own];exact⟨_,[[.int .i64 x.num],[.int .i64 x.den],[sv x.text]],underlying135,rfl,(fg (F1:=[]) (by rw[own];exact⟨rfl,rfl,Wb⟩) (fg (F1:=[]) (by rw[own];exact⟨rfl,rfl,V_⟩) (fg (F1:=[]) (by rw[own];exact⟨rfl,rfl,Kk⟩) p_)))⟩
theorem pK {l:List Item} (h:rep w B (.sl (l.map Item.toD)) [.slice A n c]) (hk:k<n):
 ∃(b off:Nat) (x:Item),A=some ⟨b,off,none⟩/\b<B/\l[k]?=some x/\rep w B x.toD [x.num,x.den,sv x.text]/\w.cell? ⟨b,off+k*3,none⟩=some (.int .i64 x.num)/\w.cell? ⟨b,off+k*3+1,none⟩=some (.int .i64 x.den)/\w.cell? ⟨b,off+k*3+2,none⟩=some (sv x.text):=by
 obtain⟨b,off,x,cs,e,hb,hx,hr,hc⟩:=Rp h hk;obtain⟨_,rfl,_⟩:=qH hr;exact⟨b,off,x,e,hb,hx,hr,hc 0 _ rfl,hc 1 _ rfl,hc 2 _ rfl⟩
theorem Qw (x:Item):szD x.toD=x.text.length:=by rw[pQ];simp only[szD,gv];omega
def Dc (x:Item):Prop:=∀(cs:List Value) (n:Int) (w:World),rep w w.heap.size x.toD cs->0<=n->n<=1048576->Calls prog 175 #[.agg cs.toArray,n] w λe w'=>e= .returned (.int .i64 (jQ (szD x.toD) n))/\Below w.heap.size w w'
theorem Tb (x:Item):Dc x:=by
 intro cs n w h h0 h1;have kD:=Qw x;obtain⟨_,rfl,Wb,V_,Kk⟩:=qH h;have q0:=(Below.refl w.heap.size w).alloc (af _) (.cells #[x.num,x.den,sv x.text] 176);have Cd:=aa kD;clear kD;have akE:x.text.length<=9223372036854775807:=Kk;go_enter func175,ntmps175;by_cases g0:n<(x.text.length:Int)
 ·have d0:decide (n - (x.text.length:Int)<0)=true:=dS;go_wp2_with fail;go_ret;exact⟨eZ mo,q0⟩
 have d0:decide (n - (x.text.length:Int)<0)=false:=dS;go_wp2_with fail;go_ret;exact⟨eZ (by rw[Cd.out,jQ,aN dP]<;>(omega)),q0⟩
theorem Qf (l:List Item) (ih:∀x∈l,Dc x) (A:Option Addr) (len cap:Nat) (n:Int) (w:World) (h:rep w w.heap.size (.sl (l.map Item.toD)) [.slice A len cap]) (h0:0<=n) (h1:n<=1048576):
 Calls prog 141 #[.slice A len cap,n] w λe w'=>e= .returned (.int .i64 (jQ (szD (.sl (l.map Item.toD))) n))/\Below w.heap.size w w':=by
 obtain⟨kO,hlc,sT⟩:=ef h;unfold maxLen at sT;rw[au]at kO;rw[szD,au,kO];by_cases hn:n<len
 ·clear kO;go_enter func141,ntmps141;go_wp2_with fail;go_ret;exact⟨eZ (by rw[Eg dP]),Below.refl _ _⟩
 ·have hd:decide (n - (len:Int)<0)=false:=dS;have HL:=aa kO;have HI:=aa ih;clear kO ih;go_enter func141,ntmps141;go_wp2_with fail;go_loopw [1,5] (λm i wr=>∃k:Nat,k<=len/\i= .int .i64 k/\m= .int .i64 (n - len - gv ((l.take k).map Item.toD))/\(len+gv ((l.take k).map Item.toD):Int)<=n/\Below w.heap.size w wr) (λ_ i _=>len - (intOf i).toNat)
  case atStart=>exact⟨0,by omega,rfl,by simp [gv],by simp [gv];omega,Below.refl _ _⟩
  case round=>
   obtain⟨k,hk,rfl,rfl,hle,hb⟩:=hrel;by_cases hlt:k<len
   ·obtain⟨b,off,x,rfl,gD,hx,fE,xO,hc1,hc2⟩:=pK (fF h hb) hlt;have HT:=aa (Be (f:=Item.toD) hx);have HU:=aa (LK (f:=Item.toD) l (k+1));have HM:=aa (aA hx);clear hx;obtain⟨q,hq⟩:∃q:Nat,q=gv ((l.take k).map Item.toD):=⟨_,rfl⟩;rw[<-hq]at hle ⊢;have HQ:=aa hq;clear hq;go_wp2_with fail;refine(HI.out x HM.out _ _ _ (gY fE hb.size) dP dP).mono ?_;rintro e w1 ⟨rfl,hb1⟩;have ZA:(len+q:Int)+szD x.toD<=n->jQ (szD x.toD) (n - len - q)=n - len - ((q+szD x.toD:Nat):Int):=λh=>by rw[l8 dP];omega
    have Y_:=aa ZA;clear ZA;by_cases WD:(len+q:Int)+szD x.toD<=n
    ·have It:decide (jQ (szD x.toD) (n - len - q)<0)=false:=by rw[Y_.out WD];simp;omega
     go_wp2_with fail;go_roundw
     case rel=>exact⟨k+1,by omega,by go_num,by rw[Y_.out WD,HT.out,<-HQ.out],by rw[HT.out,<-HQ.out];omega,ij hb hb1⟩
     case measure=>simp [intOf];omega
    ·exact yw
   ·exact yx
theorem Qg (x:Item):Dc x:=Tb x
theorem Oc (l:List Item) (A:Option Addr) (len cap:Nat) (n:Int) (w:World) (h:rep w w.heap.size (.sl (l.map Item.toD)) [.slice A len cap]) (h0:0<=n) (h1:n<=1048576):
 Calls prog 141 #[.slice A len cap,n] w λe w'=>e= .returned (.int .i64 (jQ (szD (.sl (l.map Item.toD))) n))/\Below w.heap.size w w':=Qf l (λx _=>Qg x) A len cap n w h h0 h1
def Dd (x:Item):Prop:=∀(cs:List Value) (w:World),rep w w.heap.size x.toD cs->szD x.toD<=1048576->Calls prog 176 #[.agg cs.toArray] w (gM x.toD 135 w)
theorem Tk (x:Item):Dd x:=by
 intro cs w h hz;have kD:=Qw x;rw[kD]at hz;clear kD;obtain⟨_,rfl,Wb,V_,Kk⟩:=qH h;go_enter func176,ntmps176;go_wp2_with fail;skip;refine bM (v:= .agg #[x.num,x.den,sv x.text]) (by simp [results,results176,go_sem]) rfl ⟨_,[],rfl,?_,?_,?_⟩
 ·refine uR Wb V_ Kk
 ·exact Fresh.nil
 ·exact km
theorem Mr:(prog.info? 135).map (λi=>(i.zero,i.size,i.bytes))=some (some (.agg #[.int .i64 0,.int .i64 0,sv []]),3,32):=dU
theorem Qk (l:List Item) (ih:∀x∈l,Dd x) (A:Option Addr) (len cap:Nat) (w:World) (h:rep w w.heap.size (.sl (l.map Item.toD)) [.slice A len cap]) (hz:szD (.sl (l.map Item.toD))<=1048576):
 Calls prog 144 #[.slice A len cap] w (oK (l.map Item.toD) 35 w):=by
 obtain⟨kO,hlc,sT⟩:=ef h;rw[au]at kO;rw[szD,au,kO]at hz;obtain⟨i0,DI,rJ,tW,hz2⟩:=cZ Mr;have xx:=λW=>iw (P:=prog) 35 135 i0 _ underlying35 DI rJ .i64 .i64 len len (af _) jj dP W;rw[tW]at xx;have HL:=aa kO;have HI:=aa ih;clear kO ih;go_enter func144,ntmps144;go_wp2_with fail;clear xx;go_loopw [4] (λi wr=>∃(k:Nat) (fB:List (Row 3)) (G:List Nat),k<=len/\i= .int .i64 k/\fB.length=k/\Fil wr w.heap.size 135 (len*3) (k*3) (fB.flatMap Row.v)/\iv prog wr ((l.take k).map Item.toD) 135 G (fB.map Row.v)/\Fresh (w.heap.size+1) G/\Below w.heap.size w wr) (λi _=>len - (intOf i).toNat)
 case atStart=>exact⟨0,[],[],by omega,rfl,rfl,by simpa using Fil.start w 135 (madeCells #[.int .i64 0,.int .i64 0,sv []] (len*3)) (len*3) (size_madeCells _ _),by rw[cL,bL,iv];exact⟨rfl,rfl⟩,Fresh.nil,(Below.refl _ _).alloc (af _) _⟩
 case round=>
  obtain⟨k,fB,G,hk,rfl,ZG,hf,ho,hG,hb⟩:=hrel;have Za:=aa ZG;clear ZG;by_cases hlt:k<len
  ·obtain⟨b,off,x,rfl,gD,hx,fE,xO,hc1,hc2⟩:=pK (fF h hb) hlt;have HX:=aa (eJ hx);have HM:=aa (aA hx);have OB:szD x.toD<=1048576:=by have:=rC (dt (f:=Item.toD) HM.out);omega
   clear hx;go_wp2_with fail;refine(HI.out x HM.out _ _ (gY fE hb.size) OB).mono ?_;rintro e w1 ⟨cs1,G1,rfl,Hz,Cf,hb1⟩;obtain⟨_,rfl,_⟩:=qH (eW _ _ _ _ Hz);have hf1:=hf.next hb1;have AR:=hf.lt;obtain⟨u0,hu0⟩:=hf1.cell (k*3) dP;have rJ:=hf1.frozen (k*3);obtain⟨u1,hu1⟩:=hf1.cell (k*3+1) dP;have tW:=hf1.frozen (k*3+1);obtain⟨u2,hu2⟩:=hf1.cell (k*3+2) dP;have hz2:=hf1.frozen (k*3+2);go_wp2_with fail;have hfp:=(((hf1.put dP (.int .i64 x.num)).put dP (.int .i64 x.den)).put dP (sv x.text));have XE:=((((hb.trans (hb1.mono hb.size)).setCell (p:=⟨w.heap.size,k*3,none⟩) (af _) (.int .i64 x.num)).setCell (p:=⟨w.heap.size,k*3+1,none⟩) (af _) (.int .i64 x.den)).setCell (p:=⟨w.heap.size,k*3+2,none⟩) (af _) (sv x.text));have hnG:w.heap.size ∉ G++G1:=yd;have hoA:=s_ (xV ho hb1) Hz;have hoB:iv prog ((((w1.setCell ⟨w.heap.size,k*3,none⟩ (.int .i64 x.num)).setCell ⟨w.heap.size,k*3+1,none⟩ (.int .i64 x.den)).setCell ⟨w.heap.size,k*3+2,none⟩ (sv x.text))) ((l.take (k+1)).map Item.toD) 135 (G++G1) (fB.map Row.v++[[.int .i64 x.num,.int .i64 x.den,sv x.text]]):=mI _ _ _ _ (λg hg=>(pk fX (pk fX (pk fX (rfl))))) wb;go_roundw
   case rel=>
    exact⟨k+1,fB++[⟨[.int .i64 x.num,.int .i64 x.den,sv x.text],rfl⟩],G++G1,by omega,by go_num,by simp [Za.out],by rw[cj,show (k+1)*3=k*3+3 by omega];simpa [Row.v]using hfp,by rw[aI];exact hoB,hG.app (qF _ _ _ _ ho) Cf dP,XE⟩
   case measure=>simp [intOf];omega
  ·obtain rfl:k=len:=dP;rw[aC ji]at ho;go_wp2_with fail;go_ret;refine⟨_,_,_,w.heap.size::G,rfl,?_,?_,hb⟩
   ·rw[own];exact⟨135,_,k,k,3,fB,G,underlying35,by kernel_rfl,rfl,by unfold maxLen;omega,hf.own Row.len Za.out (af _) eb (dj _),rfl,ho⟩
   ·exact yB
theorem Ql (x:Item):Dd x:=Tk x
theorem Oj (l:List Item) (A:Option Addr) (len cap:Nat) (w:World) (h:rep w w.heap.size (.sl (l.map Item.toD)) [.slice A len cap]) (hz:szD (.sl (l.map Item.toD))<=1048576):
 Calls prog 144 #[.slice A len cap] w (oK (l.map Item.toD) 35 w):=Qk l (λx _=>Ql x) A len cap w h hz
def Db (x:Item):Prop:=∀(cs cs':List Value) (w:World),rep w w.heap.size x.toD cs->rep w w.heap.size x.toD cs'->Calls prog 177 #[.agg cs.toArray,.agg cs'.toArray] w λe w'=>e= .returned (.bool true)/\Below w.heap.size w w'
theorem RX (x:Item):Db x:=by intro cs cs' w h h';obtain⟨_,rfl,Wb,V_,Kk⟩:=qH h;obtain⟨_,rfl,akK,akG,aiB⟩:=qH h';have inum:(x.num != x.num)=false:=dR;have iden:(x.den != x.den)=false:=dR;have aj9:(x.text==x.text)=true:=dR;have q0:=((Below.refl w.heap.size w).alloc (af _) (.cells #[x.num,x.den,sv x.text] 135)).alloc eA (.cells #[x.num,x.den,sv x.text] 135);go_enter func177,ntmps177;go_wp2_with fail;go_ret;exact⟨rfl,q0⟩
theorem Pd (l:List Item) (ih:∀x∈l,Db x) (A A':Option Addr) (n n' c c':Nat) (w:World) (h:rep w w.heap.size (.sl (l.map Item.toD)) [.slice A n c]) (h':rep w w.heap.size (.sl (l.map Item.toD)) [.slice A' n' c']):
 Calls prog 146 #[.slice A n c,.slice A' n' c'] w λe w'=>e= .returned (.bool true)/\Below w.heap.size w w':=by
 obtain⟨kO,hlc,sT⟩:=ef h;obtain⟨Nf,adU,adD⟩:=ef h';rw[au]at kO Nf;obtain rfl:n'=n:=dP;have hd:((n':Int) != (n':Int))=false:=dR;unfold maxLen at sT;have HI:=aa ih;clear kO Nf ih;go_enter func146,ntmps146;go_wp2_with fail;go_loopw [5] (λi wr=>∃(k:Nat),k<=n'/\i= .int .i64 k/\Below w.heap.size w wr) (λi _=>n' - (intOf i).toNat)
 case atStart=>exact⟨0,by omega,rfl,Below.refl _ _⟩
 case round=>
  obtain⟨k,hk,rfl,hb⟩:=hrel;by_cases hlt:k<n'
  ·obtain⟨b,off,x,rfl,gD,hx,fE,xO,hc1,hc2⟩:=pK (fF h hb) hlt;obtain⟨b',qv,x',rfl,XC,qD,UH,Hy,Jy,It⟩:=pK (fF h' hb) hlt;obtain rfl:x=x':=P1;have HM:=aa (aA hx);clear hx qD;have i1:(0:Int)<=(k:Int):=dP;have i2:(k:Int)<(n':Int):=dP;have uK:b<wr.heap.size:=od;have rh:b'<wr.heap.size:=od;have WE:=gY fE hb.size;have TA:=gY UH hb.size;go_wp2_with fail;go_region_held3 (λW=>(W.cell? ⟨b,off+k*3,none⟩=some (.int .i64 x.num)/\W.cell? ⟨b,off+k*3+1,none⟩=some (.int .i64 x.den)/\W.cell? ⟨b,off+k*3+2,none⟩=some (sv x.text))/\(W.cell? ⟨b',qv+k*3,none⟩=some (.int .i64 x.num)/\W.cell? ⟨b',qv+k*3+1,none⟩=some (.int .i64 x.den)/\W.cell? ⟨b',qv+k*3+2,none⟩=some (sv x.text)))
    (first|exact⟨⟨xO,hc1,hc2⟩,⟨Hy,Jy,It⟩⟩|exact⟨⟨(hb1.cell uK).trans xO,(hb1.cell uK).trans hc1,(hb1.cell uK).trans hc2⟩,⟨(hb1.cell rh).trans Hy,(hb1.cell rh).trans Jy,(hb1.cell rh).trans It⟩⟩)
    (first|(go_at_call 177;refine(HI.out x HM.out _ _ _ wC wD).mono ?_;rintro e w1 ⟨rfl,hb1⟩))
   go_wp2_with fail;go_roundw
   case rel=>exact⟨k+1,by omega,by go_num,ij hb.drew hb1⟩
   case measure=>simp [intOf];omega
  ·exact yJ
theorem Pe (x:Item):Db x:=RX x
theorem MH (l:List Item) (A A':Option Addr) (n n' c c':Nat) (w:World) (h:rep w w.heap.size (.sl (l.map Item.toD)) [.slice A n c]) (h':rep w w.heap.size (.sl (l.map Item.toD)) [.slice A' n' c']):
 Calls prog 146 #[.slice A n c,.slice A' n' c'] w λe w'=>e= .returned (.bool true)/\Below w.heap.size w w':=Pd l (λx _=>Pe x) A A' n n' c c' w h h'
theorem kF (x:Vec):x.toD= .st [.i .i64 x.kind,.sl (x.items.map Item.toD),.sl (x.parts.map Vec.toD),.sl (x.names.map .s),.sl (x.cls.map .s),.sl (x.levels.map .s),.i .i64 x.code,.i .i64 x.env]:=qf
theorem fw {x:Vec} (h:rep w B x.toD cs):∃(hD:Option Addr) (hZ:Nat) (hE:Nat) (fj:Option Addr) (fq:Nat) (fm:Nat) (fU:Option Addr) (fW:Nat) (fV:Nat) (mv:Option Addr) (mH:Nat) (mz:Nat) (gm:Option Addr) (gu:Nat) (gr:Nat),cs=[.int .i64 x.kind,.slice hD hZ hE,.slice fj fq fm,.slice fU fW fV,.slice mv mH mz,.slice gm gu gr,.int .i64 x.code,.int .i64 x.env]/\(Lit.int .i64 x.kind).wf=true/\rep w B (.sl (x.items.map Item.toD)) [.slice hD hZ hE]/\rep w B (.sl (x.parts.map Vec.toD)) [.slice fj fq fm]/\rep w B (.sl (x.names.map .s)) [.slice fU fW fV]/\rep w B (.sl (x.cls.map .s)) [.slice mv mH mz]/\rep w B (.sl (x.levels.map .s)) [.slice gm gu gr]/\(Lit.int .i64 x.code).wf=true/\(Lit.int .i64 x.env).wf=true:=by rw[kF,rep]at h;obtain⟨css,rfl,h⟩:=h;rw[gb]at h;obtain⟨c0,css,rfl,k0,h⟩:=h;rw[gb]at h;obtain⟨c1,css,rfl,k1,h⟩:=h;rw[gb]at h;obtain⟨c2,css,rfl,k2,h⟩:=h;rw[gb]at h;obtain⟨c3,css,rfl,k3,h⟩:=h;rw[gb]at h;obtain⟨c4,css,rfl,k4,h⟩:=h;rw[gb]at h;obtain⟨c5,css,rfl,k5,h⟩:=h;rw[gb]at h;obtain⟨c6,css,rfl,k6,h⟩:=h;rw[gb]at h;obtain⟨c7,css,rfl,k7,h⟩:=h;rw[gb]at h;subst h;rw[rep]at k0;obtain⟨rfl,k0⟩:=k0;obtain⟨A1,n1,d1,rfl⟩:=fD k1;obtain⟨A2,n2,d2,rfl⟩:=fD k2;obtain⟨A3,n3,d3,rfl⟩:=fD k3;obtain⟨A4,n4,d4,rfl⟩:=fD k4;obtain⟨A5,n5,d5,rfl⟩:=fD k5;rw[rep]at k6;obtain⟨rfl,k6⟩:=k6;rw[rep]at k7;obtain⟨rfl,k7⟩:=k7;exact⟨A1,n1,d1,A2,n2,d2,A3,n3,d3,A4,n4,d4,A5,n5,d5,rfl,k0,k1,k2,k3,k4,k5,k6,k7⟩
theorem uU {x:Vec} (tu:(Lit.int .i64 x.kind).wf=true) (rA:rep w B (.sl (x.items.map Item.toD)) [.slice hD hZ hE]) (kL:rep w B (.sl (x.parts.map Vec.toD)) [.slice fj fq fm]) (lu:rep w B (.sl (x.names.map .s)) [.slice fU fW fV]) (EH:rep w B (.sl (x.cls.map .s)) [.slice mv mH mz]) (pf:rep w B (.sl (x.levels.map .s)) [.slice gm gu gr]) (xF:(Lit.int .i64 x.code).wf=true) (I9:(Lit.int .i64 x.env).wf=true):rep w B x.toD [x.kind,.slice hD hZ hE,.slice fj fq fm,.slice fU fW fV,.slice mv mH mz,.slice gm gu gr,x.code,x.env]:=by rw[kF,rep];exact⟨[[.int .i64 x.kind],[.slice hD hZ hE],[.slice fj fq fm],[.slice fU fW fV],[.slice mv mH mz],[.slice gm gu gr],[.int .i64 x.code],[.int .i64 x.env]],rfl,jW.2 ⟨by rw[rep];exact⟨rfl,tu⟩,jW.2 ⟨rA,jW.2 ⟨kL,jW.2 ⟨lu,jW.2 ⟨EH,jW.2 ⟨pf,jW.2 ⟨by rw[rep];exact⟨rfl,xF⟩,jW.2 ⟨by rw[rep];exact⟨rfl,I9⟩,EO⟩⟩⟩⟩⟩⟩⟩⟩⟩
theorem jD {x:Vec} {Fitems Fparts Fnames Fcls Flevels:List Nat} (tu:(Lit.int .i64 x.kind).wf=true) (rA:own prog w (.sl (x.items.map Item.toD)) 35 Fitems [.slice hD hZ hE]) (kL:own prog w (.sl (x.parts.map Vec.toD)) 36 Fparts [.slice fj fq fm]) (lu:own prog w (.sl (x.names.map .s)) 25 Fnames [.slice fU fW fV]) (EH:own prog w (.sl (x.cls.map .s)) 25 Fcls [.slice mv mH mz]) (pf:own prog w (.sl (x.levels.map .s)) 25 Flevels [.slice gm gu gr]) (xF:(Lit.int .i64 x.code).wf=true) (I9:(Lit.int .i64 x.env).wf=true):own prog w x.toD 38 (Fitems++(Fparts++(Fnames++(Fcls++(Flevels++[]))))) [x.kind,.slice hD hZ hE,.slice fj fq fm,.slice fU fW fV,.slice mv mH mz,.slice gm gu gr,x.code,x.env]:=by rw[kF,own];exact⟨_,[[.int .i64 x.kind],[.slice hD hZ hE],[.slice fj fq fm],[.slice fU fW fV],[.slice mv mH mz],[.slice gm gu gr],[.int .i64 x.code],[.int .i64 x.env]],underlying38,rfl,(fg (F1:=[]) (by rw[own];exact⟨rfl,rfl,tu⟩) (fg rA (fg kL (fg lu (fg EH (fg pf (fg (F1:=[]) (by rw[own];exact⟨rfl,rfl,xF⟩) (fg (F1:=[]) (by rw[own];exact⟨rfl,rfl,I9⟩) p_))))))))⟩
theorem my {l:List Vec} (h:rep w B (.sl (l.map Vec.toD)) [.slice A n c]) (hk:k<n):
 ∃(b off:Nat) (x:Vec) (hD:Option Addr) (hZ:Nat) (hE:Nat) (fj:Option Addr) (fq:Nat) (fm:Nat) (fU:Option Addr) (fW:Nat) (fV:Nat) (mv:Option Addr) (mH:Nat) (mz:Nat) (gm:Option Addr) (gu:Nat) (gr:Nat),A=some ⟨b,off,none⟩/\b<B/\l[k]?=some x/\rep w B x.toD [x.kind,.slice hD hZ hE,.slice fj fq fm,.slice fU fW fV,.slice mv mH mz,.slice gm gu gr,x.code,x.env]/\w.cell? ⟨b,off+k*8,none⟩=some (.int .i64 x.kind)/\w.cell? ⟨b,off+k*8+1,none⟩=some (.slice hD hZ hE)/\w.cell? ⟨b,off+k*8+2,none⟩=some (.slice fj fq fm)/\w.cell? ⟨b,off+k*8+3,none⟩=some (.slice fU fW fV)/\w.cell? ⟨b,off+k*8+4,none⟩=some (.slice mv mH mz)/\w.cell? ⟨b,off+k*8+5,none⟩=some (.slice gm gu gr)/\w.cell? ⟨b,off+k*8+6,none⟩=some (.int .i64 x.code)/\w.cell? ⟨b,off+k*8+7,none⟩=some (.int .i64 x.env):=by
 obtain⟨b,off,x,cs,e,hb,hx,hr,hc⟩:=Rp h hk;obtain⟨hD,hZ,hE,fj,fq,fm,fU,fW,fV,mv,mH,mz,gm,gu,gr,rfl,_⟩:=fw hr;exact⟨b,off,x,hD,hZ,hE,fj,fq,fm,fU,fW,fV,mv,mH,mz,gm,gu,gr,e,hb,hx,hr,hc 0 _ rfl,hc 1 _ rfl,hc 2 _ rfl,hc 3 _ rfl,hc 4 _ rfl,hc 5 _ rfl,hc 6 _ rfl,hc 7 _ rfl⟩
theorem iH {P:Vec->Prop} (h:∀v,(∀y∈v.parts,P y)->P v):∀v,P v:=by
 have iU:∀(n:Nat) (v:Vec),SizeOf.sizeOf v<=n->P v:=by
  intro n
  induction n with
  |zero=>intro v hv;cases v;simp at hv
  |succ n ih=>
   intro v hv;refine h v λy hy=>ih y ?_;cases v;have h1:=List.sizeOf_lt_of_mem hy;simp at hv h1;omega
 exact λv=>iU _ v (af _)
theorem go (x:Vec):szD x.toD=szD (.sl (x.items.map Item.toD))+(szD (.sl (x.parts.map Vec.toD))+(szD (.sl (x.names.map .s))+(szD (.sl (x.cls.map .s))+(szD (.sl (x.levels.map .s)))))):=by rw[kF];simp only[szD,gv];omega
def tF (x:Vec):Prop:=∀(cs:List Value) (n:Int) (w:World),rep w w.heap.size x.toD cs->0<=n->n<=1048576->Calls prog 86 #[.agg cs.toArray,n] w λe w'=>e= .returned (.int .i64 (jQ (szD x.toD) n))/\Below w.heap.size w w'
theorem LM (l:List Vec) (ih:∀x∈l,tF x) (A:Option Addr) (len cap:Nat) (n:Int) (w:World) (h:rep w w.heap.size (.sl (l.map Vec.toD)) [.slice A len cap]) (h0:0<=n) (h1:n<=1048576):
 Calls prog 142 #[.slice A len cap,n] w λe w'=>e= .returned (.int .i64 (jQ (szD (.sl (l.map Vec.toD))) n))/\Below w.heap.size w w':=by
 obtain⟨kO,hlc,sT⟩:=ef h;unfold maxLen at sT;rw[au]at kO;rw[szD,au,kO];by_cases hn:n<len
 ·clear kO;go_enter func142,ntmps142;go_wp2_with fail;go_ret;exact⟨eZ (by rw[Eg dP]),Below.refl _ _⟩
 ·have hd:decide (n - (len:Int)<0)=false:=dS;have HL:=aa kO;have HI:=aa ih;clear kO ih;go_enter func142,ntmps142;go_wp2_with fail;go_loopw [1,5] (λm i wr=>∃k:Nat,k<=len/\i= .int .i64 k/\m= .int .i64 (n - len - gv ((l.take k).map Vec.toD))/\(len+gv ((l.take k).map Vec.toD):Int)<=n/\Below w.heap.size w wr) (λ_ i _=>len - (intOf i).toNat)
  case atStart=>exact⟨0,by omega,rfl,by simp [gv],by simp [gv];omega,Below.refl _ _⟩
  case round=>
   obtain⟨k,hk,rfl,rfl,hle,hb⟩:=hrel;by_cases hlt:k<len
   ·obtain⟨b,off,x,hD,hZ,hE,fj,fq,fm,fU,fW,fV,mv,mH,mz,gm,gu,gr,rfl,gD,hx,fE,xO,hc1,hc2,hc3,hc4,Jx,Wx,Wy⟩:=my (fF h hb) hlt;have HT:=aa (Be (f:=Vec.toD) hx);have HU:=aa (LK (f:=Vec.toD) l (k+1));have HM:=aa (aA hx);clear hx;obtain⟨q,hq⟩:∃q:Nat,q=gv ((l.take k).map Vec.toD):=⟨_,rfl⟩;rw[<-hq]at hle ⊢;have HQ:=aa hq;clear hq;go_wp2_with fail;refine(HI.out x HM.out _ _ _ (gY fE hb.size) dP dP).mono ?_;rintro e w1 ⟨rfl,hb1⟩;have ZA:(len+q:Int)+szD x.toD<=n->jQ (szD x.toD) (n - len - q)=n - len - ((q+szD x.toD:Nat):Int):=λh=>by rw[l8 dP];omega
    have Y_:=aa ZA;clear ZA;by_cases WD:(len+q:Int)+szD x.toD<=n
    ·have It:decide (jQ (szD x.toD) (n - len - q)<0)=false:=by rw[Y_.out WD];simp;omega
     go_wp2_with fail;go_roundw
     case rel=>exact⟨k+1,by omega,by go_num,by rw[Y_.out WD,HT.out,<-HQ.out],by rw[HT.out,<-HQ.out];omega,ij hb hb1⟩
     case measure=>simp [intOf];omega
    ·exact yw
   ·exact yx
theorem Od (x:Vec) (ih:∀y∈x.parts,tF y):tF x:=by
 intro cs n w h h0 h1;have kD:=go x;obtain⟨hD,hZ,hE,fj,fq,fm,fU,fW,fV,mv,mH,mz,gm,gu,gr,rfl,tu,rA,kL,lu,EH,pf,xF,I9⟩:=fw h;have q0:=(Below.refl w.heap.size w).alloc (af _) (.cells #[x.kind,.slice hD hZ hE,.slice fj fq fm,.slice fU fW fV,.slice mv mH mz,.slice gm gu gr,x.code,x.env] 63);have Cd:=aa kD;clear kD;go_enter func86,ntmps86;go_wp2_with fail;refine(Oc x.items _ _ _ _ _ (fb rA q0 q0.size) dP dP).mono ?_;rintro e w1 ⟨rfl,b1⟩;obtain⟨hc1,_⟩:=fY b1;have z1:=b1.size
 (try simp only[dT]at hc1 z1)
 have y1:w.heap.size<w1.heap.size:=dP;have q1:=ij q0 b1;by_cases g0:jQ (szD (.sl (x.items.map Item.toD))) n<0
 ·have Xq:n<((szD (.sl (x.items.map Item.toD)):Nat):Int):=by unfold jQ at g0;split at g0<;>omega
  go_wp2_with fail;go_ret;exact⟨eZ mo,q1⟩
 have Xq:((szD (.sl (x.items.map Item.toD)):Nat):Int)<=n:=by unfold jQ at g0;split at g0<;>omega
 have e0:jQ (szD (.sl (x.items.map Item.toD))) n=n - ((szD (.sl (x.items.map Item.toD)):Nat):Int):=l8 Xq;obtain⟨m0,Pt⟩:∃m:Int,m=jQ (szD (.sl (x.items.map Item.toD))) n:=⟨_,rfl⟩;rw[<-Pt]at g0 e0 ⊢;have E0:=aa e0;have M0:=aa Pt;have le0:0<=m0/\m0<=n:=dP;clear e0 Pt;skip;go_wp2_with fail;refine(LM x.parts ih _ _ _ _ _ (fb kL q1 q1.size) dP dP).mono ?_;rintro e w2 ⟨rfl,b2⟩;obtain⟨hc2,_⟩:=fY b2;have z2:=b2.size
 (try simp only[dT]at hc2 z2)
 have y2:w.heap.size<w2.heap.size:=dP;have q2:=ij q1 b2;by_cases g1:jQ (szD (.sl (x.parts.map Vec.toD))) m0<0
 ·have Xr:m0<((szD (.sl (x.parts.map Vec.toD)):Nat):Int):=by unfold jQ at g1;split at g1<;>omega
  go_wp2_with fail;go_ret;exact⟨eZ (by rw[Cd.out,jQ,aH (by have:=E0.out;omega)]),q2⟩
 have Xr:((szD (.sl (x.parts.map Vec.toD)):Nat):Int)<=m0:=by unfold jQ at g1;split at g1<;>omega
 have e1:jQ (szD (.sl (x.parts.map Vec.toD))) m0=m0 - ((szD (.sl (x.parts.map Vec.toD)):Nat):Int):=l8 Xr;obtain⟨m1,DJ⟩:∃m:Int,m=jQ (szD (.sl (x.parts.map Vec.toD))) m0:=⟨_,rfl⟩;rw[<-DJ]at g1 e1 ⊢;have E1:=aa e1;have M1:=aa DJ;have le1:0<=m1/\m1<=m0:=dP;clear e1 DJ;skip;go_wp2_with fail;refine(r8 x.names _ _ _ _ _ (fb lu q2 q2.size) dP dP).mono ?_;rintro e w3 ⟨rfl,b3⟩;obtain⟨hc3,_⟩:=fY b3;have z3:=b3.size
 (try simp only[dT]at hc3 z3)
 have y3:w.heap.size<w3.heap.size:=dP;have q3:=ij q2 b3;by_cases g2:jQ (szD (.sl (x.names.map .s))) m1<0
 ·have Xs:m1<((szD (.sl (x.names.map .s)):Nat):Int):=n9;go_wp2_with fail;go_ret;exact⟨eZ (by rw[Cd.out,jQ,aH (by have:=E0.out;have:=E1.out;omega)]),q3⟩
 have Xs:((szD (.sl (x.names.map .s)):Nat):Int)<=m1:=n9;have e2:jQ (szD (.sl (x.names.map .s))) m1=m1 - ((szD (.sl (x.names.map .s)):Nat):Int):=l8 Xs;obtain⟨m2,DK⟩:∃m:Int,m=jQ (szD (.sl (x.names.map .s))) m1:=⟨_,rfl⟩;rw[<-DK]at g2 e2 ⊢;have E2:=aa e2;have M2:=aa DK;have le2:0<=m2/\m2<=m1:=dP;clear e2 DK;skip;go_wp2_with fail;refine(r8 x.cls _ _ _ _ _ (fb EH q3 q3.size) dP dP).mono ?_;rintro e w4 ⟨rfl,b4⟩;obtain⟨hc4,_⟩:=fY b4;have z4:=b4.size
 (try simp only[dT]at hc4 z4)
 have y4:w.heap.size<w4.heap.size:=dP;have q4:=ij q3 b4;by_cases g3:jQ (szD (.sl (x.cls.map .s))) m2<0
 ·have g3':m2<((szD (.sl (x.cls.map .s)):Nat):Int):=by unfold jQ at g3;split at g3<;>omega
  go_wp2_with fail;go_ret;exact⟨eZ (by rw[Cd.out,jQ,aH (by have:=E0.out;have:=E1.out;have:=E2.out;omega)]),q4⟩
 have g3':((szD (.sl (x.cls.map .s)):Nat):Int)<=m2:=by unfold jQ at g3;split at g3<;>omega
 have e3:jQ (szD (.sl (x.cls.map .s))) m2=m2 - ((szD (.sl (x.cls.map .s)):Nat):Int):=l8 g3';obtain⟨m3,hm3⟩:∃m:Int,m=jQ (szD (.sl (x.cls.map .s))) m2:=⟨_,rfl⟩;rw[<-hm3]at g3 e3 ⊢;have E3:=aa e3;have M3:=aa hm3;have le3:0<=m3/\m3<=m2:=dP;clear e3 hm3;skip;go_wp2_with fail;refine(r8 x.levels _ _ _ _ _ (fb pf q4 q4.size) dP dP).mono ?_;rintro e w5 ⟨rfl,b5⟩;obtain⟨Jx,_⟩:=fY b5;have z5:=b5.size
 (try simp only[dT]at Jx z5)
 have y5:w.heap.size<w5.heap.size:=dP;have q5:=ij q4 b5;by_cases g4:jQ (szD (.sl (x.levels.map .s))) m3<0
 ·have g4':m3<((szD (.sl (x.levels.map .s)):Nat):Int):=by unfold jQ at g4;split at g4<;>omega
  go_wp2_with fail;go_ret;exact⟨eZ (by rw[Cd.out,jQ,aH (by have:=E0.out;have:=E1.out;have:=E2.out;have:=E3.out;omega)]),q5⟩
 have g4':((szD (.sl (x.levels.map .s)):Nat):Int)<=m3:=by unfold jQ at g4;split at g4<;>omega
 have e4:jQ (szD (.sl (x.levels.map .s))) m3=m3 - ((szD (.sl (x.levels.map .s)):Nat):Int):=l8 g4';obtain⟨m4,hm4⟩:∃m:Int,m=jQ (szD (.sl (x.levels.map .s))) m3:=⟨_,rfl⟩;rw[<-hm4]at g4 e4 ⊢;have E4:=aa e4;have M4:=aa hm4;have le4:0<=m4/\m4<=m3:=dP;clear e4 hm4;skip;go_wp2_with fail;go_ret;exact⟨eZ (by rw[Cd.out,jQ,aN (by have:=E0.out;have:=E1.out;have:=E2.out;have:=E3.out;have:=E4.out;omega)]<;>(have:=E0.out;have:=E1.out;have:=E2.out;have:=E3.out;have:=E4.out;omega)),q5⟩
theorem Au:∀x:Vec,tF x:=iH Od
def tG (x:Vec):Prop:=∀(cs:List Value) (w:World),rep w w.heap.size x.toD cs->szD x.toD<=1048576->Calls prog 90 #[.agg cs.toArray] w (gM x.toD 38 w)
theorem De:(prog.info? 38).map (λi=>(i.zero,i.size,i.bytes))=some (some (.agg #[.int .i64 0,(),(),(),(),(),.int .i64 0,.int .i64 0]),8,144):=dU
theorem LO (l:List Vec) (ih:∀x∈l,tG x) (A:Option Addr) (len cap:Nat) (w:World) (h:rep w w.heap.size (.sl (l.map Vec.toD)) [.slice A len cap]) (hz:szD (.sl (l.map Vec.toD))<=1048576):
 Calls prog 145 #[.slice A len cap] w (oK (l.map Vec.toD) 36 w):=by
 obtain⟨kO,hlc,sT⟩:=ef h;rw[au]at kO;rw[szD,au,kO]at hz;obtain⟨i0,DI,rJ,tW,hz2⟩:=cZ De;have xx:=λW=>iw (P:=prog) 36 38 i0 _ underlying36 DI rJ .i64 .i64 len len (af _) jj dP W;rw[tW]at xx;have HL:=aa kO;have HI:=aa ih;clear kO ih;go_enter func145,ntmps145;go_wp2_with fail;clear xx;go_loopw [4] (λi wr=>∃(k:Nat) (fB:List (Row 8)) (G:List Nat),k<=len/\i= .int .i64 k/\fB.length=k/\Fil wr w.heap.size 38 (len*8) (k*8) (fB.flatMap Row.v)/\iv prog wr ((l.take k).map Vec.toD) 38 G (fB.map Row.v)/\Fresh (w.heap.size+1) G/\Below w.heap.size w wr) (λi _=>len - (intOf i).toNat)
 case atStart=>exact⟨0,[],[],by omega,rfl,rfl,by simpa using Fil.start w 38 (madeCells #[.int .i64 0,(),(),(),(),(),.int .i64 0,.int .i64 0] (len*8)) (len*8) (size_madeCells _ _),by rw[cL,bL,iv];exact⟨rfl,rfl⟩,Fresh.nil,(Below.refl _ _).alloc (af _) _⟩
 case round=>
  obtain⟨k,fB,G,hk,rfl,ZG,hf,ho,hG,hb⟩:=hrel;have Za:=aa ZG;clear ZG;by_cases hlt:k<len
  ·obtain⟨b,off,x,hD,hZ,hE,fj,fq,fm,fU,fW,fV,mv,mH,mz,gm,gu,gr,rfl,gD,hx,fE,xO,hc1,hc2,hc3,hc4,Jx,Wx,Wy⟩:=my (fF h hb) hlt;have HX:=aa (eJ hx);have HM:=aa (aA hx);have OB:szD x.toD<=1048576:=by have:=rC (dt (f:=Vec.toD) HM.out);omega
   clear hx;go_wp2_with fail;refine(HI.out x HM.out _ _ (gY fE hb.size) OB).mono ?_;rintro e w1 ⟨cs1,G1,rfl,Hz,Cf,hb1⟩;obtain⟨zC,zG,zE,oQ,oT,oR,zD,zH,zF,MQ,MT,MR,vf,vh,vg,rfl,_⟩:=fw (eW _ _ _ _ Hz);have hf1:=hf.next hb1;have AR:=hf.lt;obtain⟨u0,hu0⟩:=hf1.cell (k*8) dP;have rJ:=hf1.frozen (k*8);obtain⟨u1,hu1⟩:=hf1.cell (k*8+1) dP;have tW:=hf1.frozen (k*8+1);obtain⟨u2,hu2⟩:=hf1.cell (k*8+2) dP;have hz2:=hf1.frozen (k*8+2);obtain⟨u3,hu3⟩:=hf1.cell (k*8+3) dP;have hz3:=hf1.frozen (k*8+3);obtain⟨u4,hu4⟩:=hf1.cell (k*8+4) dP;have hz4:=hf1.frozen (k*8+4);obtain⟨u5,hu5⟩:=hf1.cell (k*8+5) dP;have hz5:=hf1.frozen (k*8+5);obtain⟨u6,hu6⟩:=hf1.cell (k*8+6) dP;have hz6:=hf1.frozen (k*8+6);obtain⟨u7,hu7⟩:=hf1.cell (k*8+7) dP;have hz7:=hf1.frozen (k*8+7);go_wp2_with fail;have hfp:=((((((((hf1.put dP (.int .i64 x.kind)).put dP (.slice zC zG zE)).put dP (.slice oQ oT oR)).put dP (.slice zD zH zF)).put dP (.slice MQ MT MR)).put dP (.slice vf vh vg)).put dP (.int .i64 x.code)).put dP (.int .i64 x.env));have XE:=(((((((((hb.trans (hb1.mono hb.size)).setCell (p:=⟨w.heap.size,k*8,none⟩) (af _) (.int .i64 x.kind)).setCell (p:=⟨w.heap.size,k*8+1,none⟩) (af _) (.slice zC zG zE)).setCell (p:=⟨w.heap.size,k*8+2,none⟩) (af _) (.slice oQ oT oR)).setCell (p:=⟨w.heap.size,k*8+3,none⟩) (af _) (.slice zD zH zF)).setCell (p:=⟨w.heap.size,k*8+4,none⟩) (af _) (.slice MQ MT MR)).setCell (p:=⟨w.heap.size,k*8+5,none⟩) (af _) (.slice vf vh vg)).setCell (p:=⟨w.heap.size,k*8+6,none⟩) (af _) (.int .i64 x.code)).setCell (p:=⟨w.heap.size,k*8+7,none⟩) (af _) (.int .i64 x.env));have hnG:w.heap.size ∉ G++G1:=yd;have hoA:=s_ (xV ho hb1) Hz;have hoB:iv prog (((((((((w1.setCell ⟨w.heap.size,k*8,none⟩ (.int .i64 x.kind)).setCell ⟨w.heap.size,k*8+1,none⟩ (.slice zC zG zE)).setCell ⟨w.heap.size,k*8+2,none⟩ (.slice oQ oT oR)).setCell ⟨w.heap.size,k*8+3,none⟩ (.slice zD zH zF)).setCell ⟨w.heap.size,k*8+4,none⟩ (.slice MQ MT MR)).setCell ⟨w.heap.size,k*8+5,none⟩ (.slice vf vh vg)).setCell ⟨w.heap.size,k*8+6,none⟩ (.int .i64 x.code)).setCell ⟨w.heap.size,k*8+7,none⟩ (.int .i64 x.env))) ((l.take (k+1)).map Vec.toD) 38 (G++G1) (fB.map Row.v++[[.int .i64 x.kind,.slice zC zG zE,.slice oQ oT oR,.slice zD zH zF,.slice MQ MT MR,.slice vf vh vg,.int .i64 x.code,.int .i64 x.env]]):=mI _ _ _ _ (λg hg=>(pk fX (pk fX (pk fX (pk fX (pk fX (pk fX (pk fX (pk fX (rfl)))))))))) wb;go_roundw
   case rel=>
    exact⟨k+1,fB++[⟨[.int .i64 x.kind,.slice zC zG zE,.slice oQ oT oR,.slice zD zH zF,.slice MQ MT MR,.slice vf vh vg,.int .i64 x.code,.int .i64 x.env],rfl⟩],G++G1,by omega,by go_num,by simp [Za.out],by rw[cj,show (k+1)*8=k*8+8 by omega];simpa [Row.v]using hfp,by rw[aI];exact hoB,hG.app (qF _ _ _ _ ho) Cf dP,XE⟩
   case measure=>simp [intOf];omega
  ·obtain rfl:k=len:=dP;rw[aC ji]at ho;go_wp2_with fail;go_ret;refine⟨_,_,_,w.heap.size::G,rfl,?_,?_,hb⟩
   ·rw[own];exact⟨38,_,k,k,8,fB,G,underlying36,by kernel_rfl,rfl,by unfold maxLen;omega,hf.own Row.len Za.out (af _) eb (dj _),rfl,ho⟩
   ·exact yB
theorem Ok (x:Vec) (ih:∀y∈x.parts,tG y):tG x:=by
 intro cs w h hz;have kD:=go x;rw[kD]at hz;clear kD;obtain⟨hD,hZ,hE,fj,fq,fm,fU,fW,fV,mv,mH,mz,gm,gu,gr,rfl,tu,rA,kL,lu,EH,pf,xF,I9⟩:=fw h;go_enter func90,ntmps90;go_wp2_with fail;refine(Oj x.items _ _ _ _ (fb rA km fC) dP).mono ?_;rintro e w1 ⟨A1,n1,c1,G1,rfl,o1,AP,b1⟩;obtain⟨hc1,hf1⟩:=fY b1;have z1:=b1.size;simp only[dT,dX]at hc1 hf1 z1 AP;have q1:Below w.heap.size w w1:=Below.trans km (b1.mono fC);have Wc:w.heap.size<w1.heap.size:=dP;have Wd:w.heap.size+1<w1.heap.size:=dP;have y1c:w.heap.size+1+1<w1.heap.size:=dP;go_wp2_with fail;refine(LO x.parts ih _ _ _ _ (fb kL mh fC) dP).mono ?_;rintro e w2 ⟨A2,n2,c2,G2,rfl,o2,fr2,b2⟩;obtain⟨hc2,hf2⟩:=fY b2;have z2:=b2.size;simp only[dT,dX]at hc2 hf2 z2 fr2;have q2:Below w.heap.size w w2:=Below.trans mh (b2.mono fC);have Z4:w.heap.size<w2.heap.size:=dP;have Z5:w.heap.size+1<w2.heap.size:=dP;have y2c:w.heap.size+1+1<w2.heap.size:=dP;go_wp2_with fail;refine(r9 x.names _ _ _ _ (fb lu qi fC) dP).mono ?_;rintro e w3 ⟨A3,n3,c3,G3,rfl,o3,fr3,b3⟩;obtain⟨hc3,hf3⟩:=fY b3;have z3:=b3.size;simp only[dT,dX]at hc3 hf3 z3 fr3;have q3:Below w.heap.size w w3:=Below.trans qi (b3.mono fC);have y3a:w.heap.size<w3.heap.size:=dP;have y3b:w.heap.size+1<w3.heap.size:=dP;have y3c:w.heap.size+1+1<w3.heap.size:=dP;go_wp2_with fail;refine(r9 x.cls _ _ _ _ (fb EH wA fC) dP).mono ?_;rintro e w4 ⟨A4,n4,c4,G4,rfl,o4,fr4,b4⟩;obtain⟨hc4,hf4⟩:=fY b4;have z4:=b4.size;simp only[dT,dX]at hc4 hf4 z4 fr4;have q4:Below w.heap.size w w4:=Below.trans wA (b4.mono fC);have y4a:w.heap.size<w4.heap.size:=dP;have y4b:w.heap.size+1<w4.heap.size:=dP;have y4c:w.heap.size+1+1<w4.heap.size:=dP;go_wp2_with fail;refine(r9 x.levels _ _ _ _ (fb pf B_ fC) dP).mono ?_;rintro e w5 ⟨A5,n5,c5,G5,rfl,o5,fr5,b5⟩;obtain⟨Jx,hf5⟩:=fY b5;have z5:=b5.size;simp only[dT,dX]at Jx hf5 z5 fr5;have q5:Below w.heap.size w w5:=Below.trans B_ (b5.mono fC);have y5a:w.heap.size<w5.heap.size:=dP;have y5b:w.heap.size+1<w5.heap.size:=dP;have y5c:w.heap.size+1+1<w5.heap.size:=dP;go_wp2_with fail;skip;refine bM (v:= .agg #[x.kind,.slice A1 n1 c1,.slice A2 n2 c2,.slice A3 n3 c3,.slice A4 n4 c4,.slice A5 n5 c5,x.code,x.env]) (by simp [results,results90,go_sem,hc1,hc2,hc3,hc4,Jx,Wc,Wd,y1c,Z4,Z5,y2c,y3a,y3b,y3c,y4a,y4b,y4c,y5a,y5b,y5c]) rfl ⟨_,G1++(G2++(G3++(G4++(G5++[])))),rfl,?_,?_,?_⟩
 ·refine jD tu ?_ ?_ ?_ ?_ ?_ xF I9
  ·repeat'(first|with_reducible exact o1|refine lG ?_ ?_ _|refine em ?_ b2|refine em ?_ b3|refine em ?_ b4|refine em ?_ b5|(exact AP.notin jh))
  ·repeat'(first|with_reducible exact o2|refine lG ?_ ?_ _|refine em ?_ b3|refine em ?_ b4|refine em ?_ b5|(exact fr2.notin jh))
  ·repeat'(first|with_reducible exact o3|refine lG ?_ ?_ _|refine em ?_ b4|refine em ?_ b5|(exact fr3.notin jh))
  ·repeat'(first|with_reducible exact o4|refine lG ?_ ?_ _|refine em ?_ b5|(exact fr4.notin jh))
  ·repeat'(first|with_reducible exact o5|refine lG ?_ ?_ _|(exact fr5.notin jh))
 ·have k0:Fresh w5.heap.size []:=Fresh.nil;have j5:=Fresh.app fr5 (jT _ _ _ _ o5) k0 dP;have j4:=Fresh.app fr4 (jT _ _ _ _ o4) j5 dP;have j3:=Fresh.app fr3 (jT _ _ _ _ o3) j4 dP;have j2:=Fresh.app fr2 (jT _ _ _ _ o2) j3 dP;have j1:=Fresh.app AP (jT _ _ _ _ o1) j2 dP;exact j1.mono dP
 ·exact(by repeat'(first|with_reducible exact q5|refine Below.setCell ?_ ?_ _|refine Below.alloc ?_ ?_ _|((try simp only[dT,dX]);omega)))
theorem Ay:∀x:Vec,tG x:=iH Ok
def tE (x:Vec):Prop:=∀(cs cs':List Value) (w:World),rep w w.heap.size x.toD cs->rep w w.heap.size x.toD cs'->Calls prog 91 #[.agg cs.toArray,.agg cs'.toArray] w λe w'=>e= .returned (.bool true)/\Below w.heap.size w w'
theorem KR (l:List Vec) (ih:∀x∈l,tE x) (A A':Option Addr) (n n' c c':Nat) (w:World) (h:rep w w.heap.size (.sl (l.map Vec.toD)) [.slice A n c]) (h':rep w w.heap.size (.sl (l.map Vec.toD)) [.slice A' n' c']):
 Calls prog 147 #[.slice A n c,.slice A' n' c'] w λe w'=>e= .returned (.bool true)/\Below w.heap.size w w':=by
 obtain⟨kO,hlc,sT⟩:=ef h;obtain⟨Nf,adU,adD⟩:=ef h';rw[au]at kO Nf;obtain rfl:n'=n:=dP;have hd:((n':Int) != (n':Int))=false:=dR;unfold maxLen at sT;have HI:=aa ih;clear kO Nf ih;go_enter func147,ntmps147;go_wp2_with fail;go_loopw [5] (λi wr=>∃(k:Nat),k<=n'/\i= .int .i64 k/\Below w.heap.size w wr) (λi _=>n' - (intOf i).toNat)
 case atStart=>exact⟨0,by omega,rfl,Below.refl _ _⟩
 case round=>
  obtain⟨k,hk,rfl,hb⟩:=hrel;by_cases hlt:k<n'
  ·obtain⟨b,off,x,hD,hZ,hE,fj,fq,fm,fU,fW,fV,mv,mH,mz,gm,gu,gr,rfl,gD,hx,fE,xO,hc1,hc2,hc3,hc4,Jx,Wx,Wy⟩:=my (fF h hb) hlt;obtain⟨b',qv,x',Km,Lp,KI,tA,ud,tK,yW,zU,zm,TK,Vl,T3,CV,Et,Dq,rfl,XC,qD,UH,Hy,Jy,It,hd3,hd4,hd5,hd6,hd7⟩:=my (fF h' hb) hlt;obtain rfl:x=x':=P1;have HM:=aa (aA hx);clear hx qD;have i1:(0:Int)<=(k:Int):=dP;have i2:(k:Int)<(n':Int):=dP;have uK:b<wr.heap.size:=od;have rh:b'<wr.heap.size:=od;have WE:=gY fE hb.size;have TA:=gY UH hb.size;go_wp2_with fail;go_region_held3 (λW=>(W.cell? ⟨b,off+k*8,none⟩=some (.int .i64 x.kind)/\W.cell? ⟨b,off+k*8+1,none⟩=some (.slice hD hZ hE)/\W.cell? ⟨b,off+k*8+2,none⟩=some (.slice fj fq fm)/\W.cell? ⟨b,off+k*8+3,none⟩=some (.slice fU fW fV)/\W.cell? ⟨b,off+k*8+4,none⟩=some (.slice mv mH mz)/\W.cell? ⟨b,off+k*8+5,none⟩=some (.slice gm gu gr)/\W.cell? ⟨b,off+k*8+6,none⟩=some (.int .i64 x.code)/\W.cell? ⟨b,off+k*8+7,none⟩=some (.int .i64 x.env))/\(W.cell? ⟨b',qv+k*8,none⟩=some (.int .i64 x.kind)/\W.cell? ⟨b',qv+k*8+1,none⟩=some (.slice Km Lp KI)/\W.cell? ⟨b',qv+k*8+2,none⟩=some (.slice tA ud tK)/\W.cell? ⟨b',qv+k*8+3,none⟩=some (.slice yW zU zm)/\W.cell? ⟨b',qv+k*8+4,none⟩=some (.slice TK Vl T3)/\W.cell? ⟨b',qv+k*8+5,none⟩=some (.slice CV Et Dq)/\W.cell? ⟨b',qv+k*8+6,none⟩=some (.int .i64 x.code)/\W.cell? ⟨b',qv+k*8+7,none⟩=some (.int .i64 x.env)))
    (first|exact⟨⟨xO,hc1,hc2,hc3,hc4,Jx,Wx,Wy⟩,⟨Hy,Jy,It,hd3,hd4,hd5,hd6,hd7⟩⟩|exact⟨⟨(hb1.cell uK).trans xO,(hb1.cell uK).trans hc1,(hb1.cell uK).trans hc2,(hb1.cell uK).trans hc3,(hb1.cell uK).trans hc4,(hb1.cell uK).trans Jx,(hb1.cell uK).trans Wx,(hb1.cell uK).trans Wy⟩,⟨(hb1.cell rh).trans Hy,(hb1.cell rh).trans Jy,(hb1.cell rh).trans It,(hb1.cell rh).trans hd3,(hb1.cell rh).trans hd4,(hb1.cell rh).trans hd5,(hb1.cell rh).trans hd6,(hb1.cell rh).trans hd7⟩⟩)
    (first|(go_at_call 91;refine(HI.out x HM.out _ _ _ wC wD).mono ?_;rintro e w1 ⟨rfl,hb1⟩))
   go_wp2_with fail;go_roundw
   case rel=>exact⟨k+1,by omega,by go_num,ij hb.drew hb1⟩
   case measure=>simp [intOf];omega
  ·exact yJ
theorem MI (x:Vec) (ih:∀y∈x.parts,tE y):tE x:=by
 intro cs cs' w h h';obtain⟨hD,hZ,hE,fj,fq,fm,fU,fW,fV,mv,mH,mz,gm,gu,gr,rfl,tu,rA,kL,lu,EH,pf,xF,I9⟩:=fw h;obtain⟨Km,Lp,KI,tA,ud,tK,yW,zU,zm,TK,Vl,T3,CV,Et,Dq,rfl,ach,YO,LD,LC,aeT,VW,aiu,akH⟩:=fw h';have aev:(x.kind != x.kind)=false:=dR;have aj7:(x.code != x.code)=false:=dR;have ienv:(x.env != x.env)=false:=dR;have q0:=((Below.refl w.heap.size w).alloc (af _) (.cells #[x.kind,.slice hD hZ hE,.slice fj fq fm,.slice fU fW fV,.slice mv mH mz,.slice gm gu gr,x.code,x.env] 38)).alloc eA (.cells #[x.kind,.slice Km Lp KI,.slice tA ud tK,.slice yW zU zm,.slice TK Vl T3,.slice CV Et Dq,x.code,x.env] 38);go_enter func91,ntmps91;go_wp2_with fail;refine(MH x.items _ _ _ _ _ _ _ (fb rA q0 q0.size) (fb YO q0 q0.size)).mono ?_;rintro e w1 ⟨rfl,b1⟩;obtain⟨hc1,_⟩:=fY b1;have z1:=b1.size
 (try simp only[dT]at hc1 z1)
 have Wc:w.heap.size<w1.heap.size:=dP;have Wd:w.heap.size+1<w1.heap.size:=dP;have q1:=ij q0 b1;go_wp2_with fail;refine(KR x.parts ih _ _ _ _ _ _ _ (fb kL q1 q1.size) (fb LD q1 q1.size)).mono ?_;rintro e w2 ⟨rfl,b2⟩;obtain⟨hc2,_⟩:=fY b2;have z2:=b2.size
 (try simp only[dT]at hc2 z2)
 have Z4:w.heap.size<w2.heap.size:=dP;have Z5:w.heap.size+1<w2.heap.size:=dP;have q2:=ij q1 b2;go_wp2_with fail;refine(rQ x.names _ _ _ _ _ _ _ (fb lu q2 q2.size) (fb LC q2 q2.size)).mono ?_;rintro e w3 ⟨rfl,b3⟩;obtain⟨hc3,_⟩:=fY b3;have z3:=b3.size
 (try simp only[dT]at hc3 z3)
 have y3a:w.heap.size<w3.heap.size:=dP;have y3b:w.heap.size+1<w3.heap.size:=dP;have q3:=ij q2 b3;go_wp2_with fail;refine(rQ x.cls _ _ _ _ _ _ _ (fb EH q3 q3.size) (fb aeT q3 q3.size)).mono ?_;rintro e w4 ⟨rfl,b4⟩;obtain⟨hc4,_⟩:=fY b4;have z4:=b4.size
 (try simp only[dT]at hc4 z4)
 have y4a:w.heap.size<w4.heap.size:=dP;have y4b:w.heap.size+1<w4.heap.size:=dP;have q4:=ij q3 b4;go_wp2_with fail;refine(rQ x.levels _ _ _ _ _ _ _ (fb pf q4 q4.size) (fb VW q4 q4.size)).mono ?_;rintro e w5 ⟨rfl,b5⟩;obtain⟨Jx,_⟩:=fY b5;have z5:=b5.size
 (try simp only[dT]at Jx z5)
 have y5a:w.heap.size<w5.heap.size:=dP;have y5b:w.heap.size+1<w5.heap.size:=dP;have q5:=ij q4 b5;go_wp2_with fail;go_ret;exact⟨rfl,q5⟩
theorem zv:∀x:Vec,tE x:=iH MI
abbrev Me (x:Item):Value:= .agg #[x.num,x.den,sv x.text]
theorem MS (x y:Nat):Nat.gcd y (x % y)=Nat.gcd x y:=by rw[Nat.gcd_comm y (x % y),<-Nat.gcd_rec,Nat.gcd_comm]
theorem QL (a b:Int) (w:World) (ha: -9223372036854775807<=a) (ha':a<=9223372036854775807) (hb: -9223372036854775807<=b) (Tv:b<=9223372036854775807):
 Calls prog 162 #[a,b] w λe w'=>e= .returned (.int .i64 (Nat.gcd a.natAbs b.natAbs:Nat))/\Below w.heap.size w w':=by
 go_enter func162,ntmps162;go_wp2_with fail;all_goals
  go_loopw [0,1] (λu v wr=>∃x y:Nat,u= .int .i64 x/\v= .int .i64 y/\(x:Int)<=9223372036854775807/\(y:Int)<=9223372036854775807/\Nat.gcd x y=Nat.gcd a.natAbs b.natAbs/\Below w.heap.size w wr) (λ_ v _=>(intOf v).toNat)
  case atStart=>exact⟨a.natAbs,b.natAbs,by congr 1;omega,by congr 1;omega,by omega,by omega,rfl,Below.refl _ _⟩
  case round=>
   obtain⟨x,y,rfl,rfl,hx,hy,hg,gD⟩:=hrel;have HG:=aa hg;clear hg;rcases bz y with h0|h0
   ·exact GP
   ·have jC:((y:Int) != 0)=true:=dS;have hm:(x:Int).tmod (y:Int)=((x % y:Nat):Int):=by rw[Int.tmod_eq_emod_of_nonneg dP];rfl
    have hlt:x % y<y:=Nat.mod_lt _ h0;go_wp2_with fail;go_region;all_goals
     go_wp2_with fail;go_roundw
     case rel=>exact⟨y,x % y,by go_num,by go_num,by omega,by omega,by rw[MS];exact HG.out,gD.drew⟩
     case measure=>simp [intOf];omega
theorem JL (a:Int) (w:World) (ha: -9223372036854775807<=a) (ha':a<=9223372036854775807):
 Calls prog 179 #[a] w λe w'=>e= .returned (.int .i64 (a.natAbs:Nat))/\w=w':=by
 go_enter func179,ntmps179;go_wp2_with fail;all_goals (go_ret;exact⟨eZ dP,rfl⟩)
theorem JM (a b:Int) (w:World) (ha: -9223372036854775807<=a) (ha':a<=9223372036854775807) (hb: -9223372036854775807<=b) (Tv:b<=9223372036854775807):
 Calls prog 169 #[a,b] w λe w'=>e= .returned (.int .i64 (Nat.gcd a.natAbs b.natAbs:Nat))/\Below w.heap.size w w':=by
 go_enter func169,ntmps169;go_wp2_with fail;refine(JL a _ ha ha').mono ?_;rintro e w1 ⟨rfl,rfl⟩;go_wp2_with fail;refine(JL b _ hb Tv).mono ?_;rintro e w1 ⟨rfl,rfl⟩;go_wp2_with fail;go_loopw [5,6] (λu v wr=>∃x y:Nat,u= .int .i64 x/\v= .int .i64 y/\(x:Int)<=9223372036854775807/\(y:Int)<=9223372036854775807/\Nat.gcd x y=Nat.gcd a.natAbs b.natAbs/\Below w.heap.size w wr) (λ_ v _=>(intOf v).toNat)
 case atStart=>exact⟨a.natAbs,b.natAbs,rfl,rfl,by omega,by omega,rfl,Below.refl _ _⟩
 case round=>
  obtain⟨x,y,rfl,rfl,hx,hy,hg,gD⟩:=hrel;have HG:=aa hg;clear hg;rcases bz y with h0|h0
  ·exact GP
  ·have jC:((y:Int) != 0)=true:=dS;have hlt:x % y<y:=Nat.mod_lt _ h0;go_wp2_with fail;go_roundw
   case rel=>exact⟨y,x % y,by go_num,by go_num,by omega,by omega,by rw[MS];exact HG.out,gD⟩
   case measure=>simp [intOf];omega
def nZ (x:Item):Bool:=x.text.isEmpty&&decide (1<=x.den/\x.den<=999999999)&&decide (-999999999<=x.num/\x.num<=999999999)&&(Nat.gcd x.num.natAbs x.den.natAbs==1)
theorem pA (x:Item) (w:World):Calls prog 163 #[Me x] w λe w'=>e= .returned (.bool (nZ x))/\Below w.heap.size w w':=by
 go_enter func163,ntmps163;go_wp2_with (go_at_call 162;((with_reducible refine(QL _ _ _ dP dP dP dP).mono ?_);rintro e w1 ⟨rfl,hb1⟩));all_goals (go_ret;refine⟨dZ ?_,by first|exact(Below.refl _ _).alloc (af _) _|exact ij ((Below.refl _ _).alloc (af _) _) hb1⟩)
 all_goals (rw[nZ,eq_comm,bg];simp [*]<;>omega)
theorem tj (x:Item) (w:World):Calls prog 190 #[Me x] w λe w'=>e= .returned (.bool (nZ x))/\Below w.heap.size w w':=by
 go_enter func190,ntmps190;go_wp2_with (first|(go_at_call 68;((with_reducible refine(gj _ _ _ _).mono ?_);rintro e w1 ⟨rfl,rfl⟩))|(go_at_call 169;((with_reducible refine(JM _ _ _ dP dP dP dP).mono ?_);rintro e w1 ⟨rfl,hb1⟩)));all_goals (go_ret;refine⟨dZ ?_,by first|exact(Below.refl _ _).alloc (af _) _|exact ij ((Below.refl _ _).alloc (af _) _) hb1⟩)
 all_goals (rw[nZ,eq_comm,bg];simp [*]<;>omega)
def eI (x:Item):Bool:=x==⟨0,0,[]⟩
theorem kJ (x:Item) (w:World):Calls prog 156 #[Me x] w λe w'=>e= .returned (.bool (eI x))/\Below w.heap.size w w':=by go_enter func156,ntmps156;go_wp2_with fail;all_goals (go_ret;refine⟨dZ ?_,(Below.refl _ _).alloc (af _) _⟩;cases x;simp [eI];simp_all)
abbrev av (cs:List Value):Value:= .agg cs.toArray
def lenV (v:Vec):Nat:=if v.kind=5 then 1 else v.items.length+v.parts.length
theorem wV (v:Vec):lenV v<=v.items.length+v.parts.length+1:=by unfold lenV;split<;>omega
theorem pC (v:Vec) (cs:List Value) (w:World) (h:rep w w.heap.size v.toD cs) (hl:v.items.length+v.parts.length<=9223372036854775807):
 Calls prog 107 #[av cs] w λe w'=>e= .returned (.int .i64 (lenV v))/\Below w.heap.size w w':=by
 obtain⟨Ai,ni,ci,Ap,np,cp,An,nn,cn,Ac,nc,cc,Al,nl,cl,rfl,hv⟩:=iy h;rw[hv.it.len,hv.pab.2.2]at hl;have HI:=aa hv.it.len;have HP:=aa hv.pab.2.2;by_cases hk:v.kind=5
 ·have hd:(v.kind==5)=true:=jg;have HK:=aa hk;clear hk;go_enter func107,ntmps107;go_wp2_with fail;go_ret;exact⟨eZ (by rw[lenV,aN HK.out];rfl),(Below.refl _ _).alloc (af _) _⟩
 ·have hd:(v.kind==5)=false:=jg;go_enter func107,ntmps107;go_wp2_with fail;go_ret;exact⟨eZ (by rw[lenV,aH hk,HI.out,HP.out];omega),(Below.refl _ _).alloc (af _) _⟩
theorem lI (v:Vec) (cs:List Value) (w:World) (h:rep w w.heap.size v.toD cs) (hl:v.items.length+v.parts.length<=9223372036854775807):
 Calls prog 118 #[av cs] w λe w'=>e= .returned (.int .i64 (lenV v))/\Below w.heap.size w w':=by
 obtain⟨Ai,ni,ci,Ap,np,cp,An,nn,cn,Ac,nc,cc,Al,nl,cl,rfl,hv⟩:=iy h;rw[hv.it.len,hv.pab.2.2]at hl;have HI:=aa hv.it.len;have HP:=aa hv.pab.2.2;by_cases hk:v.kind=5
 ·have hd:(v.kind==5)=true:=jg;have HK:=aa hk;clear hk;go_enter func118,ntmps118;go_wp2_with fail;go_ret;exact⟨eZ (by rw[lenV,aN HK.out];rfl),(Below.refl _ _).alloc (af _) _⟩
 ·have hd:(v.kind==5)=false:=jg;go_enter func118,ntmps118;go_wp2_with fail;go_ret;exact⟨eZ (by rw[lenV,aH hk,HI.out,HP.out];omega),(Below.refl _ _).alloc (af _) _⟩
def atomK (k:Int):Bool:=decide (1<=k/\k<=3)
theorem oY (v:Vec) (cs:List Value) (w:World) (h:rep w w.heap.size v.toD cs):
 Calls prog 99 #[av cs] w λe w'=>e= .returned (.bool (atomK v.kind))/\Below w.heap.size w w':=by
 obtain⟨Ai,ni,ci,Ap,np,cp,An,nn,cn,Ac,nc,cc,Al,nl,cl,rfl,hv⟩:=iy h;go_enter func99,ntmps99;go_wp2_with fail;all_goals (go_ret;refine⟨dZ ?_,(Below.refl _ _).alloc (af _) _⟩)
 all_goals (rw[atomK,eq_comm,bg];simp_all<;>omega)
def itemOK (kind:Int) (x:Item):Bool:=
 eI x||(if kind=1 then x.text.isEmpty&&(x.den==1)&&(x.num==0||x.num==1) else if kind=2 then nZ x else if kind=3 then (x.num==0)&&(x.den==1)&&decide (x.text.length<=60) else false)
theorem Iz (kind:Int) (x:Item) (w:World) (hx:itOK x):Calls prog 189 #[kind,Me x] w λe w'=>e= .returned (.bool (itemOK kind x))/\Below w.heap.size w w':=by
 have hl:x.text.length<=9223372036854775807:=hx.2.2;have q0:=(Below.refl w.heap.size w).alloc (af _) (.cells #[x.num,x.den,sv x.text] 135);go_enter func189,ntmps189;go_wp2_with fail;refine(kJ x _).mono ?_;rintro e w1 ⟨rfl,hb1⟩;obtain⟨hc1,_⟩:=fY hb1;simp only[dT]at hc1;have q1:=ij q0 hb1;cases hm:eI x with
 |true=>
  go_wp2_with fail;go_ret;exact⟨dZ (by rw[itemOK,hm];rfl),q1⟩
 |false=>
  by_cases k1:kind=1
  ·subst k1;go_wp2_with fail;all_goals (go_ret;refine⟨dZ ?_,q1⟩)
   all_goals (rw[itemOK,hm,eq_comm,aq];simp [*])
  by_cases k2:kind=2
  ·subst k2;go_wp2_with (first|(go_at_call 163;((with_reducible refine(pA x _).mono ?_);rintro e w2 ⟨rfl,jS⟩)));go_ret;exact⟨dZ (by rw[itemOK,hm];rfl),ij q1 jS⟩
  by_cases k3:kind=3
  ·subst k3;go_wp2_with fail;all_goals (go_ret;refine⟨dZ ?_,q1⟩)
   all_goals (rw[itemOK,hm,eq_comm,aq,bg];simp [*]<;>omega)
  have e1:(kind==1)=false:=by simpa using k1
  have e2:(kind==2)=false:=ot;have e3:(kind==3)=false:=by simpa using k3
  have HR:=aa (show itemOK kind x=false by rw[itemOK,hm,aH k1,aH k2,aH k3];rfl);clear k1 k2 k3;go_wp2_with fail;go_ret;exact⟨dZ HR.out.symm,q1⟩
theorem PK (kind:Int) (x:Item) (w:World) (hx:itOK x):Calls prog 174 #[kind,Me x] w λe w'=>e= .returned (.bool (itemOK kind x))/\Below w.heap.size w w':=by
 have hl:x.text.length<=9223372036854775807:=hx.2.2;have q0:=(Below.refl w.heap.size w).alloc (af _) (.cells #[x.num,x.den,sv x.text] 135);cases hm:eI x with
 |true=>
  obtain rfl:x=⟨0,0,[]⟩:=by simpa [eI]using hm
  clear hm;go_enter func174,ntmps174;go_wp2_with fail;go_ret;exact⟨rfl,q0⟩
 |false=>
  have jC:¬x=⟨0,0,[]⟩:=by intro h;rw[h]at hm;cases hm
  have h3:¬(x.num=0/\x.den=0/\x.text=[]):=by rintro⟨a,b,c⟩;apply jC;cases x;simp_all
  have H3:=aa h3;clear jC h3;by_cases k1:kind=1
  ·subst k1;go_enter func174,ntmps174;go_wp2_with (first|(go_at_call 68;((with_reducible refine(gj _ _ _ _).mono ?_);rintro e w1 ⟨rfl,rfl⟩)));all_goals first|(exfalso;apply H3.out;exact⟨by assumption,by assumption,by assumption⟩)|(go_ret;refine⟨dZ ?_,(Below.refl _ _).alloc (af _) _⟩)
   all_goals (rw[itemOK,hm,eq_comm,aq,bg];simp [*]<;>omega)
  by_cases k2:kind=2
  ·subst k2;go_enter func174,ntmps174;go_wp2_with (first|(go_at_call 190;((with_reducible refine(tj ⟨_,_,_⟩ _).mono ?_);rintro e w2 ⟨rfl,jS⟩)));all_goals first|(exfalso;apply H3.out;exact⟨by assumption,by assumption,by assumption⟩)|(go_ret;refine⟨dZ ?_,by first|exact ij ((Below.refl _ _).alloc (af _) _) jS|exact(Below.refl _ _).alloc (af _) _⟩)
   all_goals (rw[itemOK,hm];cases x;simp_all)
  by_cases k3:kind=3
  ·subst k3;go_enter func174,ntmps174;go_wp2_with fail;all_goals first|(exfalso;apply H3.out;exact⟨by assumption,by assumption,by assumption⟩)|(go_ret;refine⟨dZ ?_,(Below.refl _ _).alloc (af _) _⟩)
   all_goals (rw[itemOK,hm,eq_comm,aq,bg];simp [*]<;>omega)
  have e1:(kind==1)=false:=by simpa using k1
  have e2:(kind==2)=false:=ot;have e3:(kind==3)=false:=by simpa using k3
  have HR:=aa (show itemOK kind x=false by rw[itemOK,hm,aH k1,aH k2,aH k3];rfl);clear k1 k2 k3;go_enter func174,ntmps174;go_wp2_with fail;all_goals first|(exfalso;apply H3.out;exact⟨by assumption,by assumption,by assumption⟩)|(go_ret;exact⟨dZ HR.out.symm,(Below.refl _ _).alloc (af _) _⟩)
theorem Reads.tk {enc:α->List Value} {l:List α} (h:Reads enc s w B A n l) (hk:k<=n):Reads enc s w B A k (l.take k):=by
 refine⟨by rw[de,h.1];omega,λh0=>?_⟩;obtain⟨b,off,e,hb,hc⟩:=h.2 dP;refine⟨b,off,e,hb,λi x j u hx hu=>hc i x j u ?_ hu⟩;rw[List.getElem?_take]at hx;split at hx
 ·exact hx
 ·cases hx
def vE:List Str->List Str->Bool
 |_,[]=>true
 |seen,e::t=>(!e.isEmpty&&decide (e.length<=60)&& !seen.contains e)&&vE (seen++[e]) t
def mF (l:List Str) (rO:Nat):Bool:=decide (l.length<=rO)&&vE [] l
theorem JO {l:List Str} {e:Str} (h:l[k]?=some e):vE (l.take k) (l.drop k)=((!e.isEmpty&&decide (e.length<=60)&& !(l.take k).contains e)&&vE (l.take (k+1)) (l.drop (k+1))):=by obtain⟨hk,he⟩:=ay.1 h;rw[cR hk,he,vE,eJ h]
theorem uI (A:Option Addr) (n c:Nat) (l:List Str) (rO:Nat) (w:World) (hr:Reads encS 1 w w.heap.size A n l) (hs:∀e∈l,e.length<=maxLen) (hn:n<=c) (hc:c<=maxLen) (hm:(rO:Int)<=1000):
 Calls prog 188 #[.slice A n c,rO] w λe w'=>e= .returned (.bool (mF l rO))/\Below w.heap.size w w':=by
 unfold maxLen at hc;have kO:=hr.len;by_cases hq:rO<n
 ·have hd:decide ((rO:Int)<(n:Int))=true:=dS;have HR:=aa (show mF l rO=false by rw[mF,kO,aK dP];rfl);clear kO;go_enter func188,ntmps188;go_wp2_with fail;go_ret;exact⟨dZ HR.out.symm,Below.refl _ _⟩
 have HR:=aa (show mF l rO=vE [] l by rw[mF,kO,aM dP];rfl);have HL:=aa kO;have hd:decide ((rO:Int)<(n:Int))=false:=dS;clear kO;go_enter func188,ntmps188;go_wp2_with fail;go_loop [13] (λi=>∃k:Nat,k<=n/\i= .int .i64 k/\vE [] l=vE (l.take k) (l.drop k)) (λi=>n - (intOf i).toNat)
 case atStart=>exact⟨0,by omega,rfl,rfl⟩
 case round=>
  obtain⟨k,hk,rfl,hf⟩:=hrel;have HF:=aa hf;clear hf;by_cases hlt:k<n
  ·obtain⟨b,off,x,rfl,gD,hx,xO⟩:=hr.atS hlt;have X_:x.length<=9223372036854775807:=hs _ (aA hx);have HD:=aa (JO hx);have hbad:(!x.isEmpty&&decide (x.length<=60)&& !(l.take k).contains x)=false->mF l rO=false:=λh=>by rw[HR.out,HF.out,HD.out,h];rfl
   have HB:=aa hbad;clear hx hbad;have hrt:=hr.tk (k:=k) dP;cases hxe:x.isEmpty with
   |true=>
    obtain rfl:x=[]:=by simpa using hxe
    go_wp2_with fail;go_ret;exact⟨dZ (HB.out rfl).symm,Below.refl _ _⟩
   |false=>
    by_cases h60:(60:Int)<(x.length:Int)
    ·go_wp2_with fail;go_ret;exact⟨dZ (HB.out (by rw[hxe,aK dP];rfl)).symm,Below.refl _ _⟩
    have adJ:decide ((60:Int)<(x.length:Int))=false:=dS;go_wp2_with fail;refine(Bx _ k _ _ x _ hrt eb).mono ?_;rintro e w1 ⟨rfl,rfl⟩;cases hct:(l.take k).contains x with
    |true=>
     go_wp2_with fail;go_ret;exact⟨dZ (HB.out (by rw[hct];simp)).symm,Below.refl _ _⟩
    |false=>
     go_wp2_with fail;go_round
     case rel=>exact⟨k+1,by omega,by go_num,by rw[HF.out,HD.out,hxe,hct,aM dP];rfl⟩
     case measure=>simp [intOf];omega
  ·obtain rfl:k=n:=dP;go_wp2_with fail;go_ret;exact⟨dZ (by rw[HR.out,HF.out,cM ji];rfl),Below.refl _ _⟩
theorem UV (l:List Str) (e:Str) (k i:Nat) (h:l[k]?=some e):decide (ix l e i<((i+k:Nat):Int))=(l.take k).contains e:=by
 induction l generalizing k i with
 |nil=>simp at h
 |cons a t ih=>
  cases k with
  |zero=>simp at h;subst h;simp [ix]
  |succ k=>
   simp at h;rw[ix,cG,List.contains_cons];by_cases hae:a=e
   ·subst hae;simp;omega
   ·rw[aH hae,show i+(k+1)=i+1+k by omega,ih k (i+1) h];have:(e==a)=false:=by simpa using λh'=>hae h'.symm
    rw[this];rfl
theorem zP (A:Option Addr) (n c:Nat) (l:List Str) (rO:Nat) (w:World) (hr:Reads encS 1 w w.heap.size A n l) (hs:∀e∈l,e.length<=maxLen) (hn:n<=c) (hc:c<=maxLen) (hm:(rO:Int)<=1000):
 Calls prog 173 #[.slice A n c,rO] w λe w'=>e= .returned (.bool (mF l rO))/\Below w.heap.size w w':=by
 unfold maxLen at hc;have HL:=aa hr.len;go_enter func173,ntmps173;go_wp2_with fail;go_loopw [5] (λi wr=>∃k:Nat,k<=n/\k<=rO+1/\i= .int .i64 k/\vE [] l=vE (l.take k) (l.drop k)/\Below w.heap.size w wr) (λi _=>n - (intOf i).toNat)
 case atStart=>exact⟨0,by omega,by omega,rfl,rfl,Below.refl _ _⟩
 case round=>
  obtain⟨k,hk,hkm,rfl,hf,hb⟩:=hrel;have HF:=aa hf;clear hf;by_cases hlt:k<n
  ·by_cases hkm2:k<=rO
   ·obtain⟨b,off,x,rfl,gD,hx,xO⟩:=(hr.below hb).atS hlt;have X_:x.length<=9223372036854775807:=hs _ (aA hx);have HD:=aa (JO hx);have mT:=UV l x k 0 hx;rw[bI]at mT;have hbad:(!x.isEmpty&&decide (x.length<=60)&& !(l.take k).contains x)=false->mF l rO=false:=λh=>by rw[mF,HF.out,HD.out,h];simp
    have HB:=aa hbad;clear hx hbad;have i1:(0:Int)<=(k:Int):=dP;have i2:(k:Int)<(n:Int):=dP;have TA:=(hr.below hb).more hb.size;cases hxe:x.isEmpty with
    |true=>
     obtain rfl:x=[]:=by simpa using hxe
     go_wp2_with fail;go_ret;exact⟨dZ (HB.out rfl).symm,hb⟩
    |false=>
     by_cases h60:(60:Int)<(x.length:Int)
     ·go_wp2_with fail;go_ret;exact⟨dZ (HB.out (by rw[hxe,aK dP];rfl)).symm,hb⟩
     have adJ:decide ((60:Int)<(x.length:Int))=false:=dS;go_wp2_with fail;refine(gG _ n _ l x _ TA eb).mono ?_;rintro e w1 ⟨rfl,rfl⟩;cases hct:(l.take k).contains x with
     |true=>
      rw[hct]at mT;go_wp2_with fail;go_ret;exact⟨dZ (HB.out (by rw[hct];simp)).symm,hb⟩
     |false=>
      rw[hct]at mT;go_wp2_with fail;go_roundw
      case rel=>exact⟨k+1,by omega,by omega,by go_num,by rw[HF.out,HD.out,hxe,hct,aM dP];rfl,hb⟩
      case measure=>simp [intOf];omega
   ·have Jy:decide ((k:Int)<=(rO:Int))=false:=dS;have It:decide ((n:Int)<=(rO:Int))=false:=dS;go_wp2_with fail;go_ret;exact⟨dZ (by rw[mF,HL.out,aK dP];rfl),hb⟩
  ·obtain rfl:k=n:=dP;have Py:mF l rO=decide (k<=rO):=by rw[mF,HF.out,cM ji,HL.out,vE,Bool.and_true]
   have HRs:=aa Py;clear Py;go_wp2_with fail;go_ret;exact⟨dZ HRs.out.symm,hb⟩
def lR (l:List Str):Bool:=l.all List.isEmpty
theorem za (A:Option Addr) (n c:Nat) (l:List Str) (w:World) (hr:Reads encS 1 w w.heap.size A n l) (hn:n<=maxLen):
 Calls prog 185 #[.slice A n c] w λe w'=>e= .returned (.bool (lR l))/\Below w.heap.size w w':=by
 unfold maxLen at hn;have HL:=aa hr.len;go_enter func185,ntmps185;go_wp2_with fail;go_loop [7] (λi=>∃k:Nat,k<=n/\i= .int .i64 k/\(l.take k).all List.isEmpty=true) (λi=>n - (intOf i).toNat)
 case atStart=>exact⟨0,by omega,rfl,by simp⟩
 case round=>
  obtain⟨k,hk,rfl,hf⟩:=hrel;have HF:=aa hf;clear hf;by_cases hlt:k<n
  ·obtain⟨b,off,x,rfl,gD,hx,xO⟩:=hr.atS hlt;have HX:=aa hx;clear hx;cases hxe:x.isEmpty with
   |true=>
    obtain rfl:x=[]:=by simpa using hxe
    go_wp2_with fail;go_round
    case rel=>exact⟨k+1,by omega,by go_num,iY HX.out HF.out rfl⟩
    case measure=>simp [intOf];omega
   |false=>
    go_wp2_with fail;go_ret;exact⟨dZ (nN HX.out hxe).symm,Below.refl _ _⟩
  ·obtain rfl:k=n:=dP;go_wp2_with fail;go_ret;exact⟨dZ (by have:=HF.out;rw[aC ji]at this;exact this.symm),Below.refl _ _⟩
def zT (l:List Str):Bool:=l.all (λs=>decide (s.length<=60))&&(l.isEmpty|| !lR l)
theorem Nz (A:Option Addr) (n c:Nat) (l:List Str) (w:World) (hr:Reads encS 1 w w.heap.size A n l) (hs:∀e∈l,e.length<=maxLen) (hn:n<=maxLen):
 Calls prog 172 #[.slice A n c] w λe w'=>e= .returned (.bool (zT l))/\Below w.heap.size w w':=by
 unfold maxLen at hn;have HL:=aa hr.len;obtain⟨p0,hp0⟩:∃p0:Bool,((n:Int)==0)=p0:=⟨_,rfl⟩;go_enter func172,ntmps172;go_wp2_with fail;have HP:=aa hp0;clear hp0;go_loop [3,4] (λv i=>∃(k:Nat) (q:Bool),k<=n/\i= .int .i64 k/\v= .bool q/\(l.take k).all (λs=>decide (s.length<=60))=true/\q=(p0|| !lR (l.take k))) (λ_ i=>n - (intOf i).toNat)
 case atStart=>exact⟨0,p0,by omega,rfl,rfl,by simp,by simp [lR]⟩
 case round=>
  obtain⟨k,q,hk,rfl,rfl,hf,hq⟩:=hrel;have HF:=aa hf;have HQ:=aa hq;clear hf hq;by_cases hlt:k<n
  ·obtain⟨b,off,x,rfl,gD,hx,xO⟩:=hr.atS hlt;have X_:x.length<=9223372036854775807:=hs _ (aA hx);have HX:=aa hx;have HT:=aa (eJ hx);clear hx;have i1:(0:Int)<=(k:Int):=dP;have i2:(k:Int)<(n:Int):=dP;by_cases h60:(60:Int)<(x.length:Int)
   ·go_wp2_with fail;go_ret;exact⟨dZ (by rw[zT,nN HX.out (aK dP)];rfl),Below.refl _ _⟩
   have adJ:decide ((60:Int)<(x.length:Int))=false:=dS;have jb:=iY HX.out HF.out (aM (show x.length<=60 by omega));have HA:=aa jb;clear jb;have hq2:(q|| !x.isEmpty)=(p0|| !lR (l.take (k+1))):=by rw[HQ.out,HT.out];unfold lR;rw[List.all_append];cases p0<;>cases (l.take k).all List.isEmpty<;>simp
   have HQ2:=aa hq2;clear hq2;cases q with
   |true=>
    go_wp2_with fail;go_round
    case rel=>exact⟨k+1,true,by omega,by go_num,rfl,HA.out,HQ2.out⟩
    case measure=>simp [intOf];omega
   |false=>
    cases hxe:x.isEmpty with
    |true=>
     rw[hxe]at HQ2;obtain rfl:x=[]:=by simpa using hxe
     go_wp2_with fail;go_round
     case rel=>exact⟨k+1,false,by omega,by go_num,rfl,HA.out,HQ2.out⟩
     case measure=>simp [intOf];omega
    |false=>
     rw[hxe]at HQ2;go_wp2_with fail;go_round
     case rel=>exact⟨k+1,true,by omega,by go_num,rfl,HA.out,HQ2.out⟩
     case measure=>simp [intOf];omega
  ·obtain rfl:k=n:=dP;have Py:zT l=q:=by have h1:=HF.out;have h2:=HQ.out;rw[aC ji]at h1 h2;rw[zT,h1,h2,<-HP.out,aj];congr 1;rw[<-HL.out,bg];simp
   have HRs:=aa Py;clear Py;go_wp2_with fail;go_ret;exact⟨dZ HRs.out.symm,Below.refl _ _⟩
def mQ:Nat->Vec->Nat
 |0,_=>1
 |r+1,v=>v.parts.foldl (λo p=>max o (1+mQ r p)) 0
theorem KZ {α:Type} (f:α->Nat) (l:List α) (o M:Nat) (h:∀x∈l,f x<=M) (ho:o<=M):l.foldl (λo p=>max o (f p)) o<=M:=by
 induction l generalizing o with
 |nil=>exact ho
 |cons a t ih=>
  rw[bC];exact ih _ (λx hx=>h x (aP _ hx)) (by have:=h a aT;omega)
theorem Vm (r:Nat) (v:Vec):mQ r v<=r+1:=by
 induction r generalizing v with
 |zero=>simp [mQ]
 |succ r ih=>rw[mQ];exact KZ (λp=>1+mQ r p) _ _ _ (λx _=>by have:=ih x;omega) dP
theorem Pk {β:Type} (f:β->α->β) (o:β) {l:List α} {x:α} (h:l[k]?=some x):(l.take (k+1)).foldl f o=f ((l.take k).foldl f o) x:=by rw[eJ h,List.foldl_append];rfl
theorem Vn (r:Nat) (hr:r<=100):∀(v:Vec) (cs:List Value) (w:World),rep w w.heap.size v.toD cs->
 Calls prog 131 #[av cs,r] w λe w'=>e= .returned (.int .i64 (mQ r v))/\Below w.heap.size w w':=by
 induction r with
 |zero=>
  intro v cs w h;obtain⟨Ai,ni,ci,Ap,np,cp,An,nn,cn,Ac,nc,cc,Al,nl,cl,rfl,hv⟩:=iy h;go_enter func131,ntmps131;go_wp2_with fail;go_ret;exact⟨rfl,(Below.refl _ _).alloc (af _) _⟩
 |succ r ih=>
  intro v cs w h;have ih:=ih dP;obtain⟨Ai,ni,ci,Ap,np,cp,An,nn,cn,Ac,nc,cc,Al,nl,cl,rfl,hv⟩:=iy h;have q0:=(Below.refl w.heap.size w).alloc (af _) (.cells (vc v Ai ni ci Ap np cp An nn cn Ac nc cc Al nl cl).toArray 38);have mD:=hv.pab;unfold maxLen at mD;have Mn:=aa mD.2.2;have OA:np<=9223372036854775807:=dP;have xo:=aa ih;clear ih mD;have jC:((r:Int)+1==0)=false:=dS;rw[show (((r+1:Nat)):Int)=(r:Int)+1 from rfl];go_enter func131,ntmps131;go_wp2_with fail;go_loopw [5,13] (λu i wr=>∃k m:Nat,k<=np/\i= .int .i64 k/\u= .int .i64 m/\m=(v.parts.take k).foldl (λo p=>max o (1+mQ r p)) 0/\m<=102/\Below w.heap.size w wr) (λ_ i _=>np - (intOf i).toNat)
  case atStart=>exact⟨0,0,by omega,rfl,rfl,rfl,by omega,q0⟩
  case round=>
   obtain⟨k,m,hk,rfl,rfl,hm,DK,hb⟩:=hrel;have HM:=aa hm;clear hm;by_cases hlt:k<np
   ·obtain⟨b,off,x,Ru,SN,RP,Rx,SP,RS,Ct,CE,Hw,L4,JS,L7,Rv,SO,Mz,rfl,gD,hx,fE,hvx,c0,c1,c2,c3,c4,c5,c6,c7⟩:=rz (fF hv.pa hb) hlt;have HX:=aa (Pk (λo p=>max o (1+mQ r p)) 0 hx);have hnl:=Vm r x;clear hx;have q1:=hb.alloc hb.size (.cells (vc x Ru SN RP Rx SP RS Ct CE Hw L4 JS L7 Rv SO Mz).toArray 38);go_wp2_with fail;refine(xo.out x _ _ (fb fE (Below.alloc (Below.refl _ _) hb.size _) sx)).mono ?_;rintro e w1 ⟨rfl,hb1⟩;go_wp2_with fail;all_goals
     go_roundw
     case rel=>exact⟨k+1,(v.parts.take (k+1)).foldl (λo p=>max o (1+mQ r p)) (0:Nat),by omega,by go_num,by rw[HX.out,<-HM.out];congr 1;omega,rfl,by rw[HX.out,<-HM.out];omega,ij q1 hb1⟩
     case measure=>simp [intOf];omega
   ·obtain rfl:k=np:=dP;go_wp2_with fail;go_ret;exact⟨eZ (by rw[mQ,HM.out,aC lk]),hb⟩
mutual
def jF:Vec->Nat
 |⟨k,i,p,n,c,l,cd,e⟩=>lenV ⟨k,i,p,n,c,l,cd,e⟩+ik p
def ik:List Vec->Nat
 |[]=>0
 |v::t=>jF v+ik t
end
theorem jU (v:Vec):jF v=lenV v+ik v.parts:=by cases v;rw[jF]
theorem Do (l l':List Vec):ik (l++l')=ik l+ik l':=by
 induction l with
 |nil=>simp [ik]
 |cons a t ih=>simp only[cK,ik,ih];omega
theorem Bs {l:List Vec} {x:Vec} (h:l[k]?=some x):ik (l.take (k+1))=ik (l.take k)+jF x:=by rw[eJ h,Do];simp [ik]
theorem Jj (l:List Vec) (k:Nat):ik (l.take k)<=ik l:=by
 have h:l=l.take k++l.drop k:=by rw[cA]
 conv=>rhs;rw[h]
 rw[Do];omega
mutual
def xN:Vec->Bool
 |⟨k,_,p,_,_,_,_,_⟩=>(k==5)||Jv p
def Jv:List Vec->Bool
 |[]=>false
 |v::t=>xN v||Jv t
end
theorem QN (v:Vec):xN v=((v.kind==5)||Jv v.parts):=by cases v;rw[xN]
theorem Jw (l:List Vec):Jv l=l.any xN:=by
 induction l with
 |nil=>rw[Jv];rfl
 |cons a t ih=>rw[Jv,ih];rfl
theorem Mt {p:α->Bool} {l:List α} {x:α} (h:l[k]?=some x) (ha:(l.take k).any p=false) (hb:p x=false):(l.take (k+1)).any p=false:=by rw[eJ h,List.any_append,ha];simp [hb]
theorem Qy {p:α->Bool} {l:List α} {x:α} (h:l[k]?=some x) (hb:p x=true):l.any p=true:=List.any_eq_true.2 ⟨x,aA h,hb⟩
theorem RL (l:List Vec) (h:∀x∈l,jF x<=2*szD x.toD+1):ik l<=2*gv (l.map Vec.toD)+l.length:=by
 induction l with
 |nil=>simp [ik]
 |cons a t ih=>
  have h1:=ih (λx hx=>h x (aP _ hx));have h2:=h a aT;simp only[ik,br,gv,bU];omega
theorem vsz (v:Vec):v.items.length+v.parts.length+gv (v.parts.map Vec.toD)<=szD v.toD:=by rw[go,szD,szD,au,au];omega
theorem RM:∀v:Vec,jF v<=2*szD v.toD+1:=iH λv ih=>by have h1:=RL v.parts ih;have h2:=wV v;have h3:=vsz v;rw[jU];omega
theorem V8 {v x:Vec} (h:x∈v.parts):szD x.toD<=szD v.toD:=by have h1:=rC (dt (f:=Vec.toD) h);have h2:=vsz v;omega
def bigV (v:Vec):Prop:=(szD v.toD:Int)<=1000000000000000
theorem bigV.part {v x:Vec} (h:bigV v) (hx:x∈v.parts):bigV x:=by unfold bigV at h ⊢;have:=V8 hx;omega
theorem bigV.len {v:Vec} (h:bigV v):((v.items.length+v.parts.length:Nat):Int)<=1000000000000000:=by unfold bigV at h;have:=vsz v;omega
theorem bigV.cells {v:Vec} (h:bigV v):(jF v:Int)<=3000000000000000:=by unfold bigV at h;have:=RM v;omega
theorem RN:∀(v:Vec) (cs:List Value) (w:World),rep w w.heap.size v.toD cs->bigV v->
 Calls prog 133 #[av cs] w λe w'=>e= .returned (.int .i64 (jF v))/\Below w.heap.size w w':=iH λv ih=>by
 intro cs w h ga;have MX:=ga.len;have hbc:=ga.cells;rw[jU]at hbc;obtain⟨Ai,ni,ci,Ap,np,cp,An,nn,cn,Ac,nc,cc,Al,nl,cl,rfl,hv⟩:=iy h;have q0:=(Below.refl w.heap.size w).alloc (af _) (.cells (vc v Ai ni ci Ap np cp An nn cn Ac nc cc Al nl cl).toArray 38);have mD:=hv.pab;unfold maxLen at mD;have Mn:=aa mD.2.2;have OA:np<=9223372036854775807:=dP;have xo:=aa ih;clear ih mD;go_enter func133,ntmps133;go_wp2_with fail;refine(pC v _ _ (fM h q0) dP).mono ?_;rintro e w1 ⟨rfl,hb1⟩;obtain⟨hc1,_⟩:=fY hb1;simp only[dT]at hc1;have q1:=ij q0 hb1;go_wp2_with fail;have XE:Below (w.alloc (.cells (vc v Ai ni ci Ap np cp An nn cn Ac nc cc Al nl cl).toArray 38)).heap.size (w.alloc (.cells (vc v Ai ni ci Ap np cp An nn cn Ac nc cc Al nl cl).toArray 38)) w1:=hb1;go_loopw [3,11] (λu i wr=>∃k:Nat,k<=np/\i= .int .i64 k/\u= .int .i64 ((lenV v+ik (v.parts.take k):Nat):Int)/\Below w.heap.size w wr) (λ_ i _=>np - (intOf i).toNat)
 case atStart=>exact⟨0,by omega,rfl,by simp [ik],q1⟩
 case round=>
  obtain⟨k,hk,rfl,rfl,hb⟩:=hrel;by_cases hlt:k<np
  ·obtain⟨b,off,x,Ru,SN,RP,Rx,SP,RS,Ct,CE,Hw,L4,JS,L7,Rv,SO,Mz,rfl,gD,hx,fE,hvx,c0,c1,c2,c3,c4,c5,c6,c7⟩:=rz (fF hv.pa hb) hlt;have HX:=aa (Bs hx);have HM:=aa (aA hx);have hle:=Jj v.parts (k+1);rw[HX.out]at hle;clear hx;obtain⟨m,hm⟩:∃m:Nat,m=lenV v+ik (v.parts.take k):=⟨_,rfl⟩;have DK:(m+jF x:Int)<=3000000000000000:=dP;rw[<-hm];have HMM:=aa hm;clear hm hle;have q2:=hb.alloc hb.size (.cells (vc x Ru SN RP Rx SP RS Ct CE Hw L4 JS L7 Rv SO Mz).toArray 38);go_wp2_with fail;refine(xo.out x HM.out _ _ (fb fE (Below.alloc (Below.refl _ _) hb.size _) sx) (ga.part HM.out)).mono ?_;rintro e w2 ⟨rfl,jS⟩;go_wp2_with fail;go_roundw
   case rel=>exact⟨k+1,by omega,by go_num,by rw[HX.out,HMM.out];congr 1;omega,ij q2 jS⟩
   case measure=>simp [intOf];omega
  ·obtain rfl:k=np:=dP;go_wp2_with fail;go_ret;exact⟨eZ (by rw[jU,aC lk]),hb⟩
theorem Nx:∀(v:Vec) (cs:List Value) (w:World),rep w w.heap.size v.toD cs->bigV v->
 Calls prog 135 #[av cs] w λe w'=>e= .returned (.int .i64 (jF v))/\Below w.heap.size w w':=iH λv ih=>by
 intro cs w h ga;have MX:=ga.len;have hbc:=ga.cells;rw[jU]at hbc;obtain⟨Ai,ni,ci,Ap,np,cp,An,nn,cn,Ac,nc,cc,Al,nl,cl,rfl,hv⟩:=iy h;have q0:=(Below.refl w.heap.size w).alloc (af _) (.cells (vc v Ai ni ci Ap np cp An nn cn Ac nc cc Al nl cl).toArray 38);have mD:=hv.pab;unfold maxLen at mD;have Mn:=aa mD.2.2;have OA:np<=9223372036854775807:=dP;have xo:=aa ih;clear ih mD;go_enter func135,ntmps135;go_wp2_with fail;refine(lI v _ _ (fM h q0) dP).mono ?_;rintro e w1 ⟨rfl,hb1⟩;obtain⟨hc1,_⟩:=fY hb1;simp only[dT]at hc1;have q1:=ij q0 hb1;go_wp2_with fail;have L_:=Blk.new_ w 38 (vc v Ai ni ci Ap np cp An nn cn Ac nc cc Al nl cl).toArray;go_loopw [3,4] (λu i wr=>∃k:Nat,k<=np/\i= .int .i64 k/\u= .int .i64 ((lenV v+ik (v.parts.take k):Nat):Int)/\Below (w.alloc (.cells (vc v Ai ni ci Ap np cp An nn cn Ac nc cc Al nl cl).toArray 38)).heap.size (w.alloc (.cells (vc v Ai ni ci Ap np cp An nn cn Ac nc cc Al nl cl).toArray 38)) wr) (λ_ i _=>np - (intOf i).toNat)
 case atStart=>exact⟨0,by omega,rfl,by simp [ik],hb1⟩
 case round=>
  obtain⟨k,hk,rfl,rfl,Ww⟩:=hrel;have hb:=ij q0 Ww;have Pw:wr.cell? ⟨w.heap.size,2,none⟩=some (.slice Ap np cp):=(L_.below Ww L_.lt).cell 2;by_cases hlt:k<np
  ·obtain⟨b,off,x,Ru,SN,RP,Rx,SP,RS,Ct,CE,Hw,L4,JS,L7,Rv,SO,Mz,rfl,gD,hx,fE,hvx,c0,c1,c2,c3,c4,c5,c6,c7⟩:=rz (fF hv.pa hb) hlt;have HX:=aa (Bs hx);have HM:=aa (aA hx);have hle:=Jj v.parts (k+1);rw[HX.out]at hle;clear hx;obtain⟨m,hm⟩:∃m:Nat,m=lenV v+ik (v.parts.take k):=⟨_,rfl⟩;have DK:(m+jF x:Int)<=3000000000000000:=dP;rw[<-hm];have HMM:=aa hm;clear hm hle;go_wp2_with fail;refine(xo.out x HM.out _ _ (gY fE hb.size) (ga.part HM.out)).mono ?_;rintro e w2 ⟨rfl,jS⟩;go_wp2_with fail;go_roundw
   case rel=>exact⟨k+1,by omega,by go_num,by rw[HX.out,HMM.out];congr 1;omega,ij Ww jS⟩
   case measure=>simp [intOf];omega
  ·obtain rfl:k=np:=dP;go_wp2_with fail;go_ret;exact⟨eZ (by rw[jU,aC lk];omega),hb⟩
theorem Cg:∀(v:Vec) (cs:List Value) (w:World),rep w w.heap.size v.toD cs->
 Calls prog 98 #[av cs] w λe w'=>e= .returned (.bool (xN v))/\Below w.heap.size w w':=iH λv ih=>by
 intro cs w h;have hHF:=QN v;rw[Jw]at hHF;have Wr:=aa hHF;clear hHF;obtain⟨Ai,ni,ci,Ap,np,cp,An,nn,cn,Ac,nc,cc,Al,nl,cl,rfl,hv⟩:=iy h;have q0:=(Below.refl w.heap.size w).alloc (af _) (.cells (vc v Ai ni ci Ap np cp An nn cn Ac nc cc Al nl cl).toArray 38);have mD:=hv.pab;unfold maxLen at mD;have Mn:=aa mD.2.2;have OA:np<=9223372036854775807:=dP;have xo:=aa ih;clear ih mD;cases hk5:(v.kind==5) with
 |true=>
  go_enter func98,ntmps98;go_wp2_with fail;go_ret;exact⟨dZ (by rw[Wr.out,hk5];rfl),q0⟩
 |false=>
 go_enter func98,ntmps98;go_wp2_with fail;go_loopw [11] (λi wr=>∃k:Nat,k<=np/\i= .int .i64 k/\(v.parts.take k).any xN=false/\Below w.heap.size w wr) (λi _=>np - (intOf i).toNat)
 case atStart=>exact⟨0,by omega,rfl,rfl,q0⟩
 case round=>
  obtain⟨k,hk,rfl,hf,hb⟩:=hrel;have HF:=aa hf;clear hf;by_cases hlt:k<np
  ·obtain⟨b,off,x,Ru,SN,RP,Rx,SP,RS,Ct,CE,Hw,L4,JS,L7,Rv,SO,Mz,rfl,gD,hx,fE,hvx,c0,c1,c2,c3,c4,c5,c6,c7⟩:=rz (fF hv.pa hb) hlt;have HX:=aa hx;have HM:=aa (aA hx);clear hx;have q2:=hb.alloc hb.size (.cells (vc x Ru SN RP Rx SP RS Ct CE Hw L4 JS L7 Rv SO Mz).toArray 38);go_wp2_with fail;refine(xo.out x HM.out _ _ (fb fE (Below.alloc (Below.refl _ _) hb.size _) sx)).mono ?_;rintro e w2 ⟨rfl,jS⟩;cases hq:xN x with
   |true=>
    go_wp2_with fail;go_ret;exact⟨dZ (by rw[Wr.out,Qy HX.out hq];simp),ij q2 jS⟩
   |false=>
    go_wp2_with fail;go_roundw
    case rel=>exact⟨k+1,by omega,by go_num,Mt HX.out HF.out hq,ij q2 jS⟩
    case measure=>simp [intOf];omega
  ·obtain rfl:k=np:=dP;go_wp2_with fail;go_ret;exact⟨dZ (by have:=HF.out;rw[aC lk]at this;rw[Wr.out,this,hk5];rfl),hb⟩
theorem xT:∀(v:Vec) (cs:List Value) (w:World),rep w w.heap.size v.toD cs->
 Calls prog 114 #[av cs] w λe w'=>e= .returned (.bool (xN v))/\Below w.heap.size w w':=iH λv ih=>by
 intro cs w h;have hHF:=QN v;rw[Jw]at hHF;have Wr:=aa hHF;clear hHF;obtain⟨Ai,ni,ci,Ap,np,cp,An,nn,cn,Ac,nc,cc,Al,nl,cl,rfl,hv⟩:=iy h;have q0:=(Below.refl w.heap.size w).alloc (af _) (.cells (vc v Ai ni ci Ap np cp An nn cn Ac nc cc Al nl cl).toArray 38);have L_:=Blk.new_ w 38 (vc v Ai ni ci Ap np cp An nn cn Ac nc cc Al nl cl).toArray;have mD:=hv.pab;unfold maxLen at mD;have Mn:=aa mD.2.2;have OA:np<=9223372036854775807:=dP;have xo:=aa ih;clear ih mD;go_enter func114,ntmps114;go_wp2_with fail;go_loopw [3] (λi wr=>∃k:Nat,k<=np/\i= .int .i64 k/\(v.parts.take k).any xN=false/\Below (w.alloc (.cells (vc v Ai ni ci Ap np cp An nn cn Ac nc cc Al nl cl).toArray 38)).heap.size (w.alloc (.cells (vc v Ai ni ci Ap np cp An nn cn Ac nc cc Al nl cl).toArray 38)) wr) (λi _=>np - (intOf i).toNat)
 case atStart=>exact⟨0,by omega,rfl,rfl,Below.refl _ _⟩
 case round=>
  obtain⟨k,hk,rfl,hf,Ww⟩:=hrel;have HF:=aa hf;clear hf;have hb:=ij q0 Ww;have Pw:wr.cell? ⟨w.heap.size,2,none⟩=some (.slice Ap np cp):=(L_.below Ww L_.lt).cell 2;have Ma:wr.cell? ⟨w.heap.size,0,none⟩=some (.int .i64 v.kind):=(L_.below Ww L_.lt).cell 0;by_cases hlt:k<np
  ·obtain⟨b,off,x,Ru,SN,RP,Rx,SP,RS,Ct,CE,Hw,L4,JS,L7,Rv,SO,Mz,rfl,gD,hx,fE,hvx,c0,c1,c2,c3,c4,c5,c6,c7⟩:=rz (fF hv.pa hb) hlt;have HX:=aa hx;have HM:=aa (aA hx);clear hx;go_wp2_with fail;refine(xo.out x HM.out _ _ (gY fE hb.size)).mono ?_;rintro e w2 ⟨rfl,jS⟩;cases hq:xN x with
   |true=>
    go_wp2_with fail;go_ret;exact⟨dZ (by rw[Wr.out,Qy HX.out hq];simp),ij hb jS⟩
   |false=>
    go_wp2_with fail;go_roundw
    case rel=>exact⟨k+1,by omega,by go_num,Mt HX.out HF.out hq,ij Ww jS⟩
    case measure=>simp [intOf];omega
  ·obtain rfl:k=np:=dP;go_wp2_with fail;go_ret;exact⟨dZ (by have:=HF.out;rw[aC lk]at this;rw[Wr.out,this,Bool.or_false]),hb⟩
def IZ (kind code env:Int) (ni np nn nc nl:Nat):Prop:=
 (0<nl->kind=2)/\(0<np->kind=4)/\(kind≠5->code=0/\env=0)/\(kind=5->ni=0/\nn=0/\ -999<=code/\code<=99999/\0<=env/\env<=99999)/\(kind=0->ni=0/\nc=0)
instance (kind code env:Int) (ni np nn nc nl:Nat):Decidable (IZ kind code env ni np nn nc nl):=by unfold IZ;infer_instance
def SB (v:Vec) (x:Item):Bool:=itemOK v.kind x&&(decide (v.levels.length=0)||eI x||decide (x.den=1/\1<=x.num/\x.num<=v.levels.length))
def wZ (v:Vec) (x:Item):Bool:=atomK v.kind&&SB v x
def CO (v:Vec):Bool:=decide (0<=v.kind/\v.kind<=5/\lenV v<=40)&&mF v.cls 3&&mF v.levels 20
def IY (v:Vec):Bool:=(decide (v.names.length=0)||(decide (v.names.length=lenV v)&& !lR v.names))&&v.names.all (λs=>decide (s.length<=60))
def P6 (v:Vec):Bool:=decide (IZ v.kind v.code v.env v.items.length v.parts.length v.names.length v.cls.length v.levels.length)
def h_ (v:Vec):Bool:=CO v&&IY v&&P6 v&&v.items.all (wZ v)
theorem aim {v:Vec} (h:CO v=false\/IY v=false\/P6 v=false\/v.items.all (wZ v)=false):h_ v=false:=by unfold h_;rcases h with h|h|h|h<;>rw[h]<;>simp
mutual
def mJ:Vec->Bool
 |⟨k,i,p,n,c,l,cd,e⟩=>h_ ⟨k,i,p,n,c,l,cd,e⟩&&vK p
def vK:List Vec->Bool
 |[]=>true
 |v::t=>mJ v&&vK t
end
theorem xW (v:Vec):mJ v=(h_ v&&v.parts.all mJ):=by
 have h:∀l,vK l=l.all mJ:=by
  intro l
  induction l with
  |nil=>rw[vK];rfl
  |cons a t ih=>rw[vK,ih];rfl
 cases v;rw[mJ,h]
def okD:Nat->Vec->Bool
 |0,v=>h_ v&&v.parts.isEmpty
 |d+1,v=>h_ v&&v.parts.all (okD d)
theorem xu {α:Type} (f:α->Nat) (l:List α) (o M:Nat):l.foldl (λo p=>max o (f p)) o<=M↔o<=M/\∀x∈l,f x<=M:=by
 induction l generalizing o with
 |nil=>simp
 |cons a t ih=>
  rw[bC,ih];simp only[aX,forall_eq_or_imp];constructor
  ·rintro⟨h1,h2⟩;exact⟨by omega,by omega,h2⟩
  ·rintro⟨h1,h2,h3⟩;exact⟨by omega,h3⟩
theorem abX (d:Nat) (v:Vec):okD d v=(decide (mQ (d+1) v<=d)&&mJ v):=by
 induction d generalizing v with
 |zero=>
  rw[okD,xW,mQ];cases hp:v.parts with
  |nil=>simp
  |cons a t=>
   have:¬(a::t).foldl (λo p=>max o (1+mQ 0 p)) 0<=0:=by rw[xu (λp=>1+mQ 0 p)];intro h;have:=h.2 a aT;omega
   rw[aK this];simp
 |succ d ih=>
  rw[okD,xW,mQ];have h1:v.parts.all (okD d)=(decide (v.parts.foldl (λo p=>max o (1+mQ (d+1) p)) 0<=d+1)&&v.parts.all mJ):=by
   rw[bg,aV,ax,decide_eq_true_iff,xu (λp=>1+mQ (d+1) p),aV];constructor
   ·intro h;refine⟨⟨by omega,λx hx=>?_⟩,λx hx=>?_⟩
    ·have:=h x hx;rw[ih,ax,decide_eq_true_iff]at this;omega
    ·have:=h x hx;rw[ih,ax]at this;exact this.2
   ·rintro⟨⟨_,h2⟩,h3⟩ x hx;rw[ih,ax,decide_eq_true_iff];exact⟨by have:=h2 x hx;omega,h3 x hx⟩
  rw[h1];cases h_ v<;>cases (decide (v.parts.foldl (λo p=>max o (1+mQ (d+1) p)) 0<=d+1))<;>simp
def isVec (v:Vec):Bool:=okD 3 v&&decide (jF v<=200)
theorem ab8 (v:Vec):IY v=((decide (v.names.length=0)||decide (v.names.length=lenV v))&&zT v.names):=by
 unfold IY zT;cases hn:v.names with
 |nil=>simp
 |cons a t=>
  have h0:decide ((a::t).length=0)=false:=dR;rw[h0];cases decide ((a::t).length=lenV v)<;>cases lR (a::t)<;>cases (a::t).all (λs=>decide (s.length<=60))<;>rfl
def PR (d:Nat) (v:Vec):Bool:=match d with
 |0=>v.parts.isEmpty
 |d+1=>v.parts.all (okD d)
theorem s8 (d:Nat) (v:Vec):okD d v=(CO v&&IY v&&P6 v&&v.items.all (wZ v)&&PR d v):=by cases d<;>rw[okD,h_]<;>rfl
theorem aaP {kind:Int} {x:Item} (h:itemOK kind x=true):eI x=decide (x.den=0):=by
 cases hm:eI x with
 |true=>
  obtain rfl:x=⟨0,0,[]⟩:=by simpa [eI]using hm
  rfl
 |false=>
  rw[itemOK,hm,aq]at h;rw[eq_comm,bB];split at h
  ·simp at h;omega
  ·split at h
   ·simp [nZ]at h;omega
   ·split at h
    ·simp at h;omega
    ·cases h
theorem aih {d:Nat} {v:Vec} (h:CO v=false\/IY v=false\/P6 v=false\/v.items.all (wZ v)=false\/PR d v=false):okD d v=false:=by rw[s8];rcases h with h|h|h|h|h<;>rw[h]<;>simp
end Go.Proofs.YtekcpadlmfaihaaGreat
