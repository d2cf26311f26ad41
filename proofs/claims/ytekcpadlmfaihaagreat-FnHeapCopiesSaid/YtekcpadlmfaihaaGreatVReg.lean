/- A region that draws its order, by an invariant that every operation keeps. -/
import Derived.Test.YtekcpadlmfaihaaGreatVNu
import Derived.Deep.RegionHeld3
import Derived.Test.YtekcpadlmfaihaaGreatVDtCell
import Derived.Test.YtekcpadlmfaihaaGreatVVb
import Derived.Deep.DeepCutAuto
namespace Go.Proofs.YtekcpadlmfaihaaGreat
open Go.RowKit Proofs.Tryz
set_option maxHeartbeats 8000000
set_option maxRecDepth 100000
set_option linter.unusedSimpArgs false
set_option linter.unusedVariables false
variable {ops:Array Oper} {c:Cel} {k:Int} {F G X Y Y' Z:List Nat} {B C bytes d i n size:Nat} {o:Oper} {P Q:Prop} {α:Type} {e t:TypeId} {w w':World}
def unl (l:Array Bool):Nat:=(l.toList.filter λb=> !b).length
theorem LQ {l:List Bool} {i:Nat} (h:l[i]?=some false):((l.set i true).filter λb=> !b).length+1=(l.filter λb=> !b).length:=by
 induction l generalizing i with
 |nil=>simp at h
 |cons a t ih=>
  cases i with
  |zero=>simp at h;subst h;simp
  |succ i=>
   simp at h;have:=ih h;cases a<;>simp [this]
theorem YZ {l:List Bool} (h:l[i]?=some false):0<(l.filter λb=> !b).length:=by have:=LQ h;omega
def QC (ops:Array Oper):Bool:=(List.range ops.size).all λi=>((ops[i]?).map λo=>o.after.all λe=>decide (e.on<i)).getD true
theorem O5 (h:QC ops=true) (ho:ops[i]?=some o):∀e∈o.after,e.on<i:=by unfold QC at h;rw[aV]at h;have:=h i (c_.2 (cN.1 ho).1);rw[ho]at this;simp only[l5,bV,Array.all_eq_true_iff_forall_mem,aL]at this;exact this
theorem Kb {ops:Array Oper} {md:Region.Mode} {l:Array Bool} (hb:QC ops=true) (hz:l.size=ops.size) (hr:Region.ready md ops l=[]):∀i,i<ops.size->l[i]?=some true:=by
 intro i
 induction i using Nat.strongRecOn with
 |ind i ih=>
  intro hi;have hl:i<l.size:=dP;cases hli:l[i] with
  |true=>simp [hl,hli]
  |false=>
   exfalso;have:i∈Region.ready md ops l:=mem_ready.2 ⟨by simp [hl,hli],ops[i],by simp [hi],λe he _=>by have h1:=O5 hb (show ops[i]?=some ops[i] by simp [hi]) e he;have h2:=ih e.on h1 dP;have h3:e.on<l.size:=dP;simp [h3]at h2 ⊢;exact h2⟩
   rw[hr]at this;simp at this
section
variable {P:Program} {ops:Array Oper} {Q:Exit->Act->World->Prop} {md:Region.Mode} {S:World->Prop}
theorem Qo (I:Array Bool->Act->World->Prop) (hz:∀l a w,I l a w->l.size=ops.size) (hSI:∀l a w,I l a w->S w)
 (TC:∀i o l a w,ops[i]?=some o->l[i]?=some false->(∀e∈o.after,Region.binds md e=true->l.getD e.on false=true)->I l a w->
  ∀K:Act->World->Prop,(∀a' w',I (l.setIfInBounds i true) a' w'->K a' w')->if Region.wanted o (yielded ops a.tmps)=true then Oper.wp P o a w K Q else K (a.put o.dst undef) w)
 (R7:QC ops=true) (tT:∀l a w,I l a w->(∀i,i<ops.size->l[i]?=some true)->Q .normal a w):
 ∀mS l a w,unl l<=mS->I l a w->wpAnyH P md ops Q S mS l a w:=by
 intro mS
 induction mS with
 |zero=>
  intro l a w hu hI;have hr:Region.ready md ops l=[]:=GN;exact⟨hr,tT l a w hI (Kb R7 (hz l a w hI) hr)⟩
 |succ mS ih=>
  intro l a w hu hI;refine⟨λhr=>tT l a w hI (Kb R7 (hz l a w hI) hr),λi hi=>?_⟩;obtain⟨h1,o,h2,h4⟩:=mem_ready.1 hi;have hlt:i<l.size:=BP;have h3:l[i]?=some false:=by simp [hlt]at h1;simp [hlt,h1]
  refine dD h2 λK' hK=>?_;refine TC i o l a w h2 h3 (λe he hb=>h4 e he hb) hI K' λa' w' hI'=>hK a' w' ⟨hSI _ _ _ hI',ih _ a' w' ?_ hI'⟩;have h5:l.toList[i]?=some false:=by simpa using h3
  have:=LQ h5;unfold unl at hu ⊢;rw[Array.toList_setIfInBounds];omega
end
def pr (P:Program) (w:World) (xs:List D) (t:TypeId) (bS bA:Bool) (uS uA:Value) (F:List Nat):Prop:=
 match bS,bA with
 |false,false=>F=[]
 |true,false=>∃g,uS= .slice (some ⟨g,0,none⟩) 0 0/\own P w (.sl []) t F [.slice (some ⟨g,0,none⟩) 0 0]
 |true,true=>∃A n c,uA= .slice A n c/\own P w (.sl xs) t F [.slice A n c]
 |false,true=>False
def sg (P:Program) (w:World) (d:D) (t:TypeId) (b:Bool) (u:Value) (F:List Nat):Prop:=
 match b with
 |false=>F=[]
 |true=>own P w d t F [u]
theorem iX {P:Program} {xs:List D} {bS bA:Bool} {uS uA:Value} (h:pr P w xs t bS bA uS uA F) (hm:Mod G w w') (hd:∀g∈F,g ∉ G):pr P w' xs t bS bA uS uA F:=by
 cases bS<;>cases bA
 ·exact h
 ·exact h
 ·obtain⟨g,h1,h2⟩:=h;exact⟨g,h1,fH h2 hm hd⟩
 ·obtain⟨A,n,c,h1,h2⟩:=h;exact⟨A,n,c,h1,fH h2 hm hd⟩
theorem vU {P:Program} {d:D} {b:Bool} {u:Value} (h:sg P w d t b u F) (hm:Mod G w w') (hd:∀g∈F,g ∉ G):sg P w' d t b u F:=by
 cases b
 ·exact h
 ·exact fH (show own P w d t F [u] from h) hm hd
theorem Fresh.mid (h:Fresh B (X++(Y++Z))) (hl:Lo C (X++(Y++Z))) (hB:B<=C) (hn:Y'.Nodup) (hy:∀x∈Y',x∈Y\/C<=x):Fresh B (X++(Y'++Z)):=by
 obtain⟨n1,n2,n3⟩:=aE.1 h.1;obtain⟨m1,m2,m3⟩:=aE.1 n2;refine⟨aE.2 ⟨n1,aE.2 ⟨hn,m2,?_⟩,?_⟩,?_⟩
 ·intro a ha b hb e;subst e;rcases hy a ha with h1|h1
  ·exact m3 a h1 a hb rfl
  ·have:=hl a (by simp [hb]);omega
 ·intro a ha b hb e;subst e;rcases aG.1 hb with hb|hb
  ·rcases hy a hb with h1|h1
   ·exact n3 a ha a kw rfl
   ·have:=hl a (by simp [ha]);omega
  ·exact n3 a ha a (by simp [hb]) rfl
 ·intro g hg;rcases aG.1 hg with hg|hg
  ·exact h.2 g fe
  ·rcases aG.1 hg with hg|hg
   ·rcases hy g hg with h1|h1
    ·exact h.2 g kw
    ·omega
   ·exact h.2 g fe
theorem Lo.mid {C':Nat} (h:Lo C (X++(Y++Z))) (hC:C<=C') (hy:Lo C' Y'):Lo C' (X++(Y'++Z)):=λg hg=>by
 rcases aG.1 hg with hg|hg
 ·exact db (h g fe) hC
 ·rcases aG.1 hg with hg|hg
  ·exact hy g hg
  ·exact db (h g fe) hC
theorem Lo.one {g:Nat} (h:g<C):Lo C [g]:=λx hx=>by simp at hx;omega
theorem Fresh.apart (h:Fresh B (X++(Y++Z))):(∀g∈X,g ∉ Y)/\(∀g∈Z,g ∉ Y):=by obtain⟨n1,n2,n3⟩:=aE.1 h.1;obtain⟨m1,m2,m3⟩:=aE.1 n2;exact⟨λg hg hy=>n3 g hg g eK rfl,λg hg hy=>m3 g hy g hg rfl⟩
theorem P0 {P:Program} (enc:α->List Value){ty:TypeId} (hT:ElemTy P t e size bytes) (mB:∀x,(enc x).length=size) (hone:∀x,∀u∈enc x,u.oneCell'=true)
 (base:Nat) (A:Option Addr) (n c:Nat) (l:List α) (mC:Own enc size e w base A n c l) (A2:Option Addr) (m c2 B:Nat) (l2:List α) (hr:Reads enc size w B A2 m l2)
 (h63:(n+m)*bytes<=140737488355328) (hn:n+m<=maxLen) (DC:base<=w.heap.size):
 ∃v' w',(Builtin.append_ #[t,t] ty #[.slice A n c,.slice A2 m c2]).run P w= .ok v' w'/\w'.ownsRow base e size v' (n+m) ((l++l2).flatMap enc)/\w.grownBy w' (Value.slice A n c).ownBlock/\(v'.ownBlock=(Value.slice A n c).ownBlock\/v'.ownBlock=some w.heap.size):=by
 obtain⟨i,z,ht,hi,hz,h1,h2,h3,h4⟩:=hT.ok;rcases A2 with _|ad
 ·have hm:m=0:=FU;subst hm;have xf:l2=[]:=List.eq_nil_of_length_eq_zero hr.1;subst xf;exact⟨_,w,rZ w base t ty e i size ht hi _ n _ mC.2 c2,by simpa using mC.2,World.grownBy.refl w _,.inl rfl⟩
 ·have px:∀j u,(l2.flatMap enc)[j]?=some u->w.cell? (ad.add j)=some u:=GZ;obtain⟨v',w',Pz,h5,h6,_,h8⟩:=run_append_own_at (P:=P) w base t ty e i z size bytes ht hi hz h1 h2 h3 h4 _ n _ mC.2 ad m c2 (l2.flatMap enc) (by rw[gN mB,hr.1]) px
   BK hn h63 DC
  exact⟨v',w',Pz,by rw[cj];exact h5,h6,h8⟩
theorem qc {P:Program} {f:α->D} (enc:α->List Value) (hT:ElemTy P t e size bytes) (kD:P.cellsOf e=size) (mB:∀x,(enc x).length=size) (hone:∀x,∀u∈enc x,u.oneCell'=true)
 {ops:Array Oper} {o:Oper} {a:Act} {Q:Exit->Act->World->Prop} {K:Act->World->Prop} {E:Prop} {w:World} (zK:o.guard=none) (sl x:Operand)
 (ho:o.op= .call {callee:= .builtin .append,args:=#[sl,x],argTypes:=#[t,t]}) {g:Nat} {F:List Nat} (hs:a.eval sl= .slice (some ⟨g,0,none⟩) 0 0) (mC:own P w (.sl []) t F [.slice (some ⟨g,0,none⟩) 0 0])
 (A2:Option Addr) (m c2 B:Nat) (l2:List α) (hx:a.eval x= .slice A2 m c2) (hr:Reads enc size w B A2 m l2) (hfl:∀x∈l2,∀w',own P w' (f x) e [] (enc x))
 (h63:m*bytes<=140737488355328) (hn:m<=maxLen)
 (h:∀A' c' w' F',own P w' (.sl (l2.map f)) t F' [.slice A' m c']->(F'.Nodup/\∀x∈F',x∈F\/w.heap.size<=x)->Mod F w w'->K (a.put o.dst (.slice A' m c')) w'):
 if Region.wanted o (yielded ops a.tmps)=true then Oper.wp P o a w K Q else E:=by
 obtain⟨i,z,ht,hi,hz,h1,h2,h3,h4⟩:=hT.ok;have BC:=mC;rw[own]at BC;obtain⟨e',A',n',c',s,fB,F2,k1,k2,he,hm,hO,hF,hA⟩:=BC;injection he with he;injection he with e1 e2 e3;subst e1 e2 e3
 rw[ht]at k1;injection k1 with k1;injection k1 with k1;subst k1
 rw[kD]at k2;subst k2;rw[iv]at hA;obtain⟨hF2,aef⟩:=hA;have hrw:fB=[]:=List.map_eq_nil_iff.1 aef;subst hrw hF2;have hF':F=[g]:=by rw[hF];rfl
 subst hF';have hO2:Own enc size e w 0 (some ⟨g,0,none⟩) 0 0 ([]:List α):=⟨rfl,by simpa using hO.2⟩;obtain⟨v',w',Pz,q1,q2,q3⟩:=P0 (ty:=o.type) enc hT mB hone 0 _ 0 0 [] hO2 A2 m c2 B l2 hr (by simpa using h63) (by simpa using hn) (dj _);rw[bI,cJ]at q1;have Ut:∃A' c',v'= .slice A' m c'/\(oz A'=[g]\/oz A'=[w.heap.size]\/oz A'=[])/\c'<=maxLen:=by
  rcases q1.2 with ⟨h9,h10⟩|⟨g',cap,pq,h9,_,_,_,Ng,_⟩
  ·exact⟨none,0,by rw[h9,h10],.inr (.inr rfl),by unfold maxLen;omega⟩
  ·refine⟨_,_,h9,?_,Ng⟩;rw[h9]at q3;simp only[Value.ownBlock,l5,cE]at q3;rcases q3 with q3|q3
   ·left;simp [oz,q3]
   ·right;left;simp [oz,q3]
 obtain⟨A',c',rfl,K7,sT⟩:=Ut;have hO3:Own enc size e w' 0 A' m c' l2:=⟨hr.1,q1⟩;have Py:own P w' (.sl (l2.map f)) t (oz A') [.slice A' m c']:=zZ mB ht kD hO3 sT (λx hx=>hfl x hx w');have Pu:Mod [g] w w':=⟨⟨q2.os,q2.tape,q2.output⟩,q2.size,λk hk hn=>q2.block k hk (λe=>by simp [Value.ownBlock]at e;exact hn mr)⟩;have hK:=h A' c' w' (oz A') Py ⟨by cases A'<;>simp [oz],λx hx=>by
  rcases K7 with K7|K7|K7<;>rw[K7]at hx
  ·exact .inl hx
  ·simp at hx;exact .inr dP
  ·simp at hx⟩ Pu
 rw[aN (by simp [Region.wanted,zK])];unfold Oper.wp execOp;simp only[ho,resolve,invoke,builtin,Sem.run_bind,Sem.run_pure,Result.andThen_ok,List.map_toArray,br,bL,hs,hx,Pz];exact hK
structure Gh where
 b:Nat
 a:Option Addr
 c:Nat
 f:Nat->Value
 A:Nat->Option Addr
 C:Nat->Nat
 d:D
def ghL (l:List Value):Gh:=⟨0,none,0,λk=>l.getD k undef,λ_=>none,λ_=>0,.b false⟩
def mA (b:Nat):Gh:=⟨b,none,0,λ_=>undef,λ_=>none,λ_=>0,.b false⟩
def Ov (a:Option Addr) (c:Nat):Gh:=⟨0,a,c,λ_=>undef,λ_=>none,λ_=>0,.b false⟩
def R3 (b c:Nat):Gh:=⟨b,none,c,λ_=>undef,λ_=>none,λ_=>0,.b false⟩
def Ow (l:List (Option Addr × Nat)):Gh:=⟨0,none,0,λ_=>undef,λk=>(l.getD k (none,0)).1,λk=>(l.getD k (none,0)).2,.b false⟩
def ghD (d:D) (c:Nat) (l:List Value):Gh:=⟨0,none,c,λk=>l.getD k undef,λ_=>none,λ_=>0,d⟩
inductive En (α:Type) where
 |c (x:α)
 |e (i:Nat) (f:Gh->α)
 |e2 (i j:Nat) (f:Gh->Gh->α)
 |e3 (i j k:Nat) (f:Gh->Gh->Gh->α)
 |e5 (i j k l m:Nat) (f:Gh->Gh->Gh->Gh->Gh->α)
 |e6 (i j k l m n:Nat) (f:Gh->Gh->Gh->Gh->Gh->Gh->α)
def En.ev {α:Type} (γ:Nat->Gh):En α->α
 | .c x=>x
 | .e i f=>f (γ i)
 | .e2 i j f=>f (γ i) (γ j)
 | .e3 i j k f=>f (γ i) (γ j) (γ k)
 | .e5 i j k l m f=>f (γ i) (γ j) (γ k) (γ l) (γ m)
 | .e6 i j k l m n f=>f (γ i) (γ j) (γ k) (γ l) (γ m) (γ n)
def En.deps {α:Type}:En α->List Nat
 | .c _=>[]
 | .e i _=>[i]
 | .e2 i j _=>[i,j]
 | .e3 i j k _=>[i,j,k]
 | .e5 i j k l m _=>[i,j,k,l,m]
 | .e6 i j k l m n _=>[i,j,k,l,m,n]
theorem MP {α β:Type} {f g:α->Option β}:∀{l:List α},(∀x∈l,f x=g x)->l.filterMap f=l.filterMap g
 |[],_=>rfl
 |a::t,h=>by rw[bH,bH,h a dR,MP λx hx=>h x iF]
def xE (γ:Nat->Gh) (i:Nat) (x:Gh):Nat->Gh:=λk=>if k=i then x else γ k
theorem Om (γ:Nat->Gh) (i:Nat):xE γ i (γ i)=γ:=by funext k;unfold xE;split<;>simp_all
theorem En.ev_upd {e:En α} {γ:Nat->Gh} {x:Gh} (h:i ∉ e.deps):e.ev (xE γ i x)=e.ev γ:=by
 have key:∀k,k∈e.deps->xE γ i x k=γ k:=λk hk=>by unfold xE;rw[aH];rintro rfl;exact h hk
 cases e<;>simp only[En.ev,En.deps]at*<;>simp [key]
structure Re where
 pr:Option Nat
 co:Option Nat
 f:En As
def aaE (s:List Nat) (l:List Nat):List Nat:=l.foldl (λs x=>if s.contains x then s else x::s) s
def Jf (ops:Array Oper):Bool:=(List.range ops.size).all λi=>((ops[i]?).map λo=>o.after.all λe=> !Region.binds .any e||decide (e.on<i)).getD true
theorem O4 (h:Jf ops=true) (ho:ops[i]?=some o):∀e∈o.after,Region.binds .any e=true->e.on<i:=by unfold Jf at h;rw[aV]at h;have:=h i (c_.2 (cN.1 ho).1);rw[ho]at this;simp only[l5,bV,Array.all_eq_true_iff_forall_mem,aL,bX,cQ]at this;exact λe he hb=>(this e he).resolve_left (by simp [hb])
theorem EJ {ops:Array Oper} {l:Array Bool} (hb:Jf ops=true) (hz:l.size=ops.size) (hr:Region.ready .any ops l=[]):∀i,i<ops.size->l[i]?=some true:=by
 intro i
 induction i using Nat.strongRecOn with
 |ind i ih=>
  intro hi;have hl:i<l.size:=dP;cases hli:l[i] with
  |true=>simp [hl,hli]
  |false=>
   exfalso;have:i∈Region.ready .any ops l:=mem_ready.2 ⟨by simp [hl,hli],ops[i],by simp [hi],λe he xe=>by have h1:=O4 hb (show ops[i]?=some ops[i] by simp [hi]) e he xe;have h2:=ih e.on h1 dP;have h3:e.on<l.size:=dP;simp [h3]at h2 ⊢;exact h2⟩
   rw[hr]at this;simp at this
section
variable {P:Program} {ops:Array Oper} {Q:Exit->Act->World->Prop} {S:World->Prop}
theorem Op (I:Array Bool->Act->World->Prop) (hz:∀l a w,I l a w->l.size=ops.size) (hSI:∀l a w,I l a w->S w)
 (TC:∀i o l a w,ops[i]?=some o->l[i]?=some false->(∀e∈o.after,Region.binds .any e=true->l.getD e.on false=true)->I l a w->
  ∀K:Act->World->Prop,(∀a' w',I (l.setIfInBounds i true) a' w'->K a' w')->if Region.wanted o (yielded ops a.tmps)=true then Oper.wp P o a w K Q else K (a.put o.dst undef) w)
 (R7:Jf ops=true) (tT:∀l a w,I l a w->(∀i,i<ops.size->l[i]?=some true)->Q .normal a w):
 ∀mS l a w,unl l<=mS->I l a w->wpAnyH P .any ops Q S mS l a w:=by
 intro mS
 induction mS with
 |zero=>
  intro l a w hu hI;have hr:Region.ready .any ops l=[]:=GN;exact⟨hr,tT l a w hI (EJ R7 (hz l a w hI) hr)⟩
 |succ mS ih=>
  intro l a w hu hI;refine⟨λhr=>tT l a w hI (EJ R7 (hz l a w hI) hr),λi hi=>?_⟩;obtain⟨h1,o,h2,h4⟩:=mem_ready.1 hi;have hlt:i<l.size:=BP;have h3:l[i]?=some false:=by simp [hlt]at h1;simp [hlt,h1]
  refine dD h2 λK' hK=>?_;refine TC i o l a w h2 h3 (λe he hb=>h4 e he hb) hI K' λa' w' hI'=>hK a' w' ⟨hSI _ _ _ hI',ih _ a' w' ?_ hI'⟩;have h5:l.toList[i]?=some false:=by simpa using h3
  have:=LQ h5;unfold unl at hu ⊢;rw[Array.toList_setIfInBounds];omega
end
def Im (ops:List Oper):List (List Nat):=ops.foldl (λsH o=>sH++[o.after.toList.foldl (λs e=>if Region.binds .any e then aaE s (e.on::sH.getD e.on []) else s) []]) []
def abW (ops:Array Oper) (cl:List (List Nat)):Bool:=
 (List.range ops.size).all λi=>(cl.getD i []).all λj=>match ops[i]? with
  |none=>false
  |some o=>o.after.toList.any λe=>Region.binds .any e&&decide (e.on<i)&&(e.on==j||(cl.getD e.on []).contains j)
def ndp:List Nat->Bool
 |[]=>true
 |x::t=> !t.contains x&&ndp t
theorem NE:∀{l:List Nat},ndp l=true->l.Nodup
 |[],_=>List.nodup_nil
 |x::t,h=>by unfold ndp at h;simp only[ax,cQ,cW,bB]at h;exact aQ.2 ⟨h.1,NE h.2⟩
def dstOf (ops:Array Oper) (i:Nat):Option Nat:=(ops[i]?).bind (·.dst)
def iJ (rs:List Re) (i:Nat):List Nat:=(List.range rs.length).filter λr=>((rs[r]?).map λe=>e.co==some i).getD false
def lr (rs:List Re) (i:Nat):List Nat:=(List.range rs.length).filter λr=>((rs[r]?).map λe=>e.pr==some i).getD false
def YB (e:Re) (ai:List Nat):Bool:=match e.pr with|none=>true|some p=>ai.contains p
def Zg (ops:Array Oper) (old:List Nat) (cl:List (List Nat)) (vs:List (En Value)) (rs:List Re) (us:List (List Nat)) (i:Nat):Bool:=
 match ops[i]?,vs[i]? with
 |some o,some v=>
  let ai:=cl.getD i []
  let cs:=iJ rs i
  let u:=us.getD i []
  ((o.looksAt ops).all λt=>(List.range ops.size).all λj=>dstOf ops j != some t||(if old.contains t then (cl.getD j []).contains i else ai.contains j))&&
  (v.deps.all λk=>k==i||ai.contains k)&&ndp (cs++u)&&
  (u.all λr=>match rs[r]? with
   |none=>false
   |some e=>YB e ai&&(match e.co with|none=>true|some c=>c != i&&(cl.getD c []).contains i))&&
  (cs.all λr=>match rs[r]? with
   |none=>false
   |some e=>YB e ai)&&
  ((List.range ops.size).all λj=>j==i||dstOf ops i==none||dstOf ops j != dstOf ops i)
 |_,_=>false
def Zh (cl:List (List Nat)) (n:Nat) (e:Re):Bool:=
 (match e.pr with
 |none=>e.f.deps.isEmpty
 |some p=>decide (p<n)&&e.f.deps.all λk=>k==p||(cl.getD p []).contains k)&&
 (match e.co with
 |none=>true
 |some c=>decide (c<n))
def chk (ops:Array Oper) (old:List Nat) (vs:List (En Value)) (rs:List Re) (us:List (List Nat)):Bool:=
 abW ops (Im ops.toList)&&Jf ops&&Region.noSelect ops&&(List.range ops.size).all (Zg ops old (Im ops.toList) vs rs us)&&rs.all (Zh (Im ops.toList) ops.size)
def x8 (T:Array Value) (d:Option Nat) (v:Value):Array Value:=match d with
 |none=>T
 |some t=>T.setIfInBounds t v
def vR (T:Array Value):List (Option Nat)->List Value->Array Value
 |d::ds,v::vs=>vR (x8 T d v) ds vs
 |_,_=>T
def mb (A T0:Array Value):List Nat->Array Value
 |[]=>A
 |t::l=>(mb A T0 l).setIfInBounds t (T0.getD t undef)
theorem rY {A T0:Array Value}:∀{l:List Nat},(mb A T0 l).size=A.size
 |[]=>rfl
 |t::l=>by rw[mb,Array.size_setIfInBounds,rY]
theorem Kf {A T0:Array Value} (h:A.size=T0.size) (k:Nat):∀{l:List Nat},(mb A T0 l)[k]?=if k∈l then T0[k]? else A[k]?
 |[]=>by simp [mb]
 |t::l=>by
  rw[mb];by_cases hk:t=k
  ·subst hk;rcases cP t T0.size with hlt|tU
   ·have:t<(mb A T0 l).size:=by rw[rY];omega
    simp [this,hlt]
   ·rw[cI (by rw[Array.size_setIfInBounds,rY];omega),cI tU];simp
  ·rw[dC hk,Kf h k];simp [Ne.symm hk]
def JU (rs:List Re) (us:List (List Nat)) (γ:Nat->Gh) (i:Nat):List As:=(iJ rs i++us.getD i []).filterMap λr=>(rs[r]?).map (·.f.ev γ)
def DA (rs:List Re) (us:List (List Nat)) (γ:Nat->Gh) (i:Nat):List As:=(lr rs i++us.getD i []).filterMap λr=>(rs[r]?).map (·.f.ev γ)
def sG (P:Program) (w0:World) (X:List Nat) (ops:Array Oper) (vs:List (En Value)) (rs:List Re) (us:List (List Nat)) (D0:List Deferred) (Tf:(Nat->Gh)->Array Value) (i:Nat):Prop:=
 ∃(o:Oper) (v:En Value),ops[i]?=some o/\vs[i]?=some v/\∀(γ:Nat->Gh) (w:World) (R:List As) (K:Act->World->Prop),Mem P w0 X w (JU rs us γ i++R)->
  (∀x w',Mem P w0 X w' (DA rs us (xE γ i x) i++R)->K ((Act.mk (Tf γ) D0).put o.dst (v.ev (xE γ i x))) w')->
  if Region.wanted o (yielded ops (Act.mk (Tf γ) D0).tmps)=true then Oper.wp P o ⟨Tf γ,D0⟩ w K (λ_ _ _=>False) else K ((Act.mk (Tf γ) D0).put o.dst undef) w
section
variable {ops:Array Oper} {cl:List (List Nat)}
def Dn (ops:Array Oper) (l:Nat->Bool):Prop:=∀i o,ops[i]?=some o->l i=true->∀e∈o.after,Region.binds .any e=true->l e.on=true
theorem qI (h:abW ops cl=true) {l:Nat->Bool} (hd:Dn ops l):∀(i:Nat) (o:Oper),ops[i]?=some o->(∀e∈o.after,Region.binds .any e=true->l e.on=true)->∀j∈cl.getD i [],l j=true:=by
 intro i
 induction i using Nat.strongRecOn with
 |ind i ih=>
  intro o ho he j hj;have hi:i<ops.size:=(cN.1 ho).1;unfold abW at h;rw[aV]at h;have h1:=h i (c_.2 hi);rw[aV]at h1;have h2:=h1 j hj;rw[ho]at h2;simp only[List.any_eq_true,ax,bX,beq_iff_eq,aL,cW]at h2;obtain⟨e,hm,⟨hb,hlt⟩,h3⟩:=h2;have h4:=he e (by simpa using hm) hb;rcases h3 with rfl|h3
  ·exact h4
  ·have hi2:e.on<ops.size:=dP;exact ih e.on hlt _ (bR hi2) (hd e.on _ (bR hi2) h4) j h3
structure Fr (ops:Array Oper) (T0:Array Value) (l:Nat->Bool) (val:Nat->Value) (T:Array Value):Prop where
 sz:T.size=T0.size
 on:∀i t,l i=true->dstOf ops i=some t->t<T0.size->T[t]?=some (val i)
 off:∀t,(∀i,l i=true->dstOf ops i≠some t)->T[t]?=T0[t]?
def s9 (l:Nat->Bool) (i:Nat):Nat->Bool:=λk=>if k=i then true else l k
theorem Fr.put {T0 T:Array Value} {l:Nat->Bool} {val val':Nat->Value} {i:Nat} (h:Fr ops T0 l val T) (hl:l i=false) (hd:∀j t,j≠i->dstOf ops i=some t->dstOf ops j≠some t) (hv:∀j,l j=true->val' j=val j):
 Fr ops T0 (s9 l i) val' (x8 T (dstOf ops i) (val' i)):=by
 have kD:(x8 T (dstOf ops i) (val' i)).size=T0.size:=by unfold x8;split<;>simp [h.sz]
 refine⟨kD,λj t hj ht hlt=>?_,λt ht=>?_⟩
 ·unfold s9 at hj;by_cases hji:j=i
  ·subst hji;rw[ht];unfold x8;simp [h.sz,hlt]
  ·rw[aH hji]at hj;rw[hv j hj,<-h.on j t hj ht hlt];unfold x8;split
   ·rfl
   ·rename_i t' Mc
    have:t'≠t:=λe=>by subst e;exact hd j t' hji Mc ht
    simp [dC this]
 ·rw[<-h.off t (λj hj=>ht j (by unfold s9;split<;>simp [hj]))];unfold x8;split
  ·rfl
  ·rename_i t' Mc
   have:t'≠t:=λe=>by subst e;exact ht i (by simp [s9]) Mc
   simp [dC this]
theorem Fr.same {T0 T T':Array Value} {l l':Nat->Bool} {val:Nat->Value} (h:Fr ops T0 l val T) (h':Fr ops T0 l' val T') {t:Nat} (hk:∀j,dstOf ops j=some t->l j=true/\l' j=true):T[t]?=T'[t]?:=by
 by_cases hlt:t<T0.size
 ·by_cases hj:∃j,dstOf ops j=some t
  ·obtain⟨j,hj⟩:=hj;obtain⟨h1,h2⟩:=hk j hj;rw[h.on j t h1 hj hlt,h'.on j t h2 hj hlt]
  ·rw[h.off t (λi _ e=>hj ⟨i,e⟩),h'.off t (λi _ e=>hj ⟨i,e⟩)]
 ·rw[cI (by rw[h.sz];omega),cI (by rw[h'.sz];omega)]
theorem Fr.ext {T0 T T':Array Value} {l l':Nat->Bool} {val:Nat->Value} (h:Fr ops T0 l val T) (h':Fr ops T0 l' val T') (hk:∀j,j<ops.size->l j=true/\l' j=true):T=T':=by
 refine Array.ext_getElem? λt=>h.same h' λj hj=>hk j ?_;rcases cP j ops.size with hlt|tU
 ·exact hlt
 ·simp [dstOf,cI tU]at hj
theorem Fr.all_ {T0:Array Value} {val:Nat->Value} (hd:∀i j t,j≠i->dstOf ops i=some t->dstOf ops j≠some t):∀(m k:Nat) (T:Array Value) (ds:List (Option Nat)) (vs:List Value),k+m=ops.size->ds=(List.range' k m).map (dstOf ops)->vs=(List.range' k m).map val->
 Fr ops T0 (λi=>decide (i<k)) val T->Fr ops T0 (λi=>decide (i<ops.size)) val (vR T ds vs)
 |0,k,T,ds,vs,hk,hds,OD,h=>by simp at hds OD;subst hds OD;unfold vR;have:k=ops.size:=dP;subst this;exact h
 |m+1,k,T,ds,vs,hk,hds,OD,h=>by
  rw[List.range'_succ,br]at hds OD;subst hds OD;unfold vR;refine Fr.all_ hd m (k+1) _ _ _ dP rfl rfl ?_;have h1:=h.put (i:=k) (val':=val) dR (λj t hj=>hd k j t hj) (λ_ _=>rfl);have h2:s9 (λi=>decide (i<k)) k=λi=>decide (i<k+1):=by
   funext i;unfold s9;split
   ·subst_vars;simp
   ·have:(i<k)=(i<k+1):=dS;simp [this]
  rw[h2]at h1;exact h1
end
section
variable {R0:List As} {P:Program} {w0:World} {X:List Nat} {ops:Array Oper} {vs:List (En Value)} {rs:List Re} {us:List (List Nat)} {D0:List Deferred} {Tf Rf:(Nat->Gh)->Array Value} {old:List Nat} {T0:Array Value} {Q:Exit->Act->World->Prop}
theorem VI {A B:Array Value} {dst:Option Tmp} {u u':Value} (hs:A.size=B.size) (h:(Act.mk A D0).put dst u=(Act.mk A D0).put dst u'):(Act.mk B D0).put dst u=(Act.mk B D0).put dst u':=by
 cases dst with
 |none=>rfl
 |some d=>
  simp only[Act.put,Act.mk.injEq,cO]at h ⊢;by_cases hd:d<A.size
  ·have h1:(A.setIfInBounds d u)[d]?=(A.setIfInBounds d u')[d]?:=by rw[h]
   simp [hd]at h1;rw[h1]
  ·have hB:B.size<=d:=by rw[<-hs];exact Nat.le_of_not_lt hd
   rw[Array.setIfInBounds_eq_of_size_le hB,Array.setIfInBounds_eq_of_size_le hB]
theorem Y1 {o:Oper} {A B:Array Value} {k:Value->World->Prop} {next:Act->World->Prop} {r:Result Next} (hs:A.size=B.size)
 (h:o.upon P ⟨A,D0⟩ (λa' w'=>∃u,a'=(Act.mk A D0).put o.dst u/\k u w') (λ_ _ _=>False) r) (hn:∀u w',k u w'->next ((Act.mk B D0).put o.dst u) w'):o.upon P ⟨B,D0⟩ next Q r:=by
 have key:∀u w',(∃u',(Act.mk A D0).put o.dst u=(Act.mk A D0).put o.dst u'/\k u' w')->next ((Act.mk B D0).put o.dst u) w':=by rintro u w' ⟨u',h1,h2⟩;rw[VI hs h1];exact hn u' w' h2
 cases r with
 |ok n w'=>
  cases n<;>simp only[Oper.upon]at h ⊢
  case value v=>exact key _ _ h
  case skip=>exact key _ _ h
  case defer d=>
   obtain⟨u,h1,_⟩:=h;exfalso;have h2:d::D0=D0:=by have:=cU Act.defers h1;cases hdst:o.dst<;>(rw[hdst]at this;exact this)
   have:=cU List.length h2;simp at this
  case enter f args=>
   refine aF h λe w'' he=>?_;cases e with
   |returned v=>exact key _ _ he
   |panicked c=>exact he.elim
   |outgrown=>obtain⟨_,_,h⟩:=he;exact h.elim
  case row row args=>exact Rows.mono h λv w'' he=>key _ _ he
 |halt x w'=>cases x<;>simp only[Oper.upon]at h
def lv (rs:List Re) (l:Nat->Bool) (r:Nat):Bool:=match rs[r]? with
 |none=>false
 |some e=>(match e.pr with|none=>true|some p=>l p)&&(match e.co with|none=>true|some c=> !l c)
def oZ (rs:List Re) (l:Nat->Bool):List Nat:=(List.range rs.length).filter (lv rs l)
def W8 (rs:List Re) (γ:Nat->Gh) (r:Nat):Option As:=(rs[r]?).map (·.f.ev γ)
theorem rt {l:Nat->Bool} {r:Nat}:r∈oZ rs l↔lv rs l r=true:=by
 unfold oZ;rw[cS,c_];constructor
 ·exact λh=>h.2
 ·intro h;refine⟨?_,h⟩;unfold lv at h;rcases cP r rs.length with h1|h1
  ·exact h1
  ·rw[b_ h1]at h;simp at h
theorem ua {l:Nat->Bool}:(oZ rs l).Nodup:=List.nodup_range.filter _
theorem Rg {a b:List Nat} (ha:a.Nodup) (hb:b.Nodup) (h:∀x,x∈a↔x∈b):a.Perm b:=(List.perm_ext_iff_of_nodup ha hb).2 h
theorem vG {i r:Nat}:r∈iJ rs i↔∃e,rs[r]?=some e/\e.co=some i:=by
 unfold iJ;rw[cS,c_];constructor
 ·exact Gb
 ·rintro⟨e,h1,h2⟩;exact⟨(ay.1 h1).1,by simp [h1,h2]⟩
theorem zQ {i r:Nat}:r∈lr rs i↔∃e,rs[r]?=some e/\e.pr=some i:=by
 unfold lr;rw[cS,c_];constructor
 ·exact Gb
 ·rintro⟨e,h1,h2⟩;exact⟨(ay.1 h1).1,by simp [h1,h2]⟩
def iN (rs:List Re) (γ:Nat->Gh) (l:List Nat):List As:=l.filterMap (W8 rs γ)
def St (P:Program) (w0:World) (X:List Nat) (ops:Array Oper) (vs:List (En Value)) (rs:List Re) (D0:List Deferred) (T0:Array Value) (R0:List As) (la:Array Bool) (a:Act) (w:World):Prop:=
 la.size=ops.size/\Dn ops (λi=>la.getD i false)/\∃(γ:Nat->Gh) (T:Array Value),a=⟨T,D0⟩/\Fr ops T0 (λi=>la.getD i false) (λi=>((vs[i]?).map (·.ev γ)).getD undef) T/\Mem P w0 X w (iN rs γ (oZ rs λi=>la.getD i false)++R0)
theorem T5 (R0:List As) (AQ:chk ops old vs rs us=true) (gK:vs.length=ops.size) (hT:∀γ,vR T0 (ops.toList.map (·.dst)) (vs.map (·.ev γ))=Tf γ) (hR:∀γ,mb (Tf γ) T0 old=Rf γ)
 (wS:∀i,i<ops.size->sG P w0 X ops vs rs us D0 Rf i):
 (∀(i:Nat) (o:Oper) (la:Array Bool) (a:Act) (w:World),ops[i]?=some o->la[i]?=some false->(∀e∈o.after,Region.binds .any e=true->la.getD e.on false=true)->St P w0 X ops vs rs D0 T0 R0 la a w->
  ∀(Q:Exit->Act->World->Prop) (K:Act->World->Prop),(∀a' w',St P w0 X ops vs rs D0 T0 R0 (la.setIfInBounds i true) a' w'->K a' w')->if Region.wanted o (yielded ops a.tmps)=true then Oper.wp P o a w K Q else K (a.put o.dst undef) w)/\
 (∀(la:Array Bool) (a:Act) (w:World),St P w0 X ops vs rs D0 T0 R0 la a w->(∀i,i<ops.size->la[i]?=some true)->∃γ,a=⟨Tf γ,D0⟩/\Mem P w0 X w (iN rs γ (oZ rs λi=>decide (i<ops.size))++R0))/\
 (∀w:World,(∀γ,Mem P w0 X w (iN rs γ (oZ rs λ_=>false)++R0))->St P w0 X ops vs rs D0 T0 R0 (Array.replicate ops.size false) ⟨T0,D0⟩ w)/\Jf ops=true:=by
 unfold chk at AQ;simp only[ax]at AQ;obtain⟨⟨⟨⟨K9,R7⟩,hns⟩,hco⟩,hcr⟩:=AQ;rw[aV]at hco hcr;have XY:∀(i:Nat) (o:Oper) (v:En Value),ops[i]?=some o->vs[i]?=some v->(∀t∈o.looksAt ops,∀j,dstOf ops j=some t->if t∈old then i∈(Im ops.toList).getD j [] else j∈(Im ops.toList).getD i [])/\(∀k∈v.deps,k=i\/k∈(Im ops.toList).getD i [])/\(iJ rs i++us.getD i []).Nodup/\
  (∀r∈us.getD i [],∃e,rs[r]?=some e/\(∀p,e.pr=some p->p∈(Im ops.toList).getD i [])/\(∀c,e.co=some c->c≠i/\i∈(Im ops.toList).getD c []))/\
  (∀r∈iJ rs i,∃e,rs[r]?=some e/\(∀p,e.pr=some p->p∈(Im ops.toList).getD i []))/\(∀j t,j≠i->dstOf ops i=some t->dstOf ops j≠some t):=by
  intro i o v ho hv;have h1:=hco i (c_.2 (cN.1 ho).1);unfold Zg at h1;rw[ho,hv]at h1;simp only[ax,aV]at h1;obtain⟨⟨⟨⟨⟨h2,h3⟩,h4⟩,h5⟩,h6⟩,h7⟩:=h1;have dlt:∀j t,dstOf ops j=some t->j<ops.size:=λj t hj=>GH;refine⟨λt ht j hj=>?_,λk hk=>?_,NE h4,λr hr=>?_,λr hr=>?_,λj t hji hi hj=>?_⟩
  ·have:=h2 t ht j (c_.2 (dlt j t hj));by_cases ho:t∈old
   ·simpa [hj,ho]using this
   ·simpa [hj,ho]using this
  ·have:=h3 k hk;simpa using this
  ·have:=h5 r hr;cases hre:rs[r]? with
   |none=>simp [hre]at this
   |some e=>
    simp only[hre,ax]at this;refine⟨e,rfl,λp hp=>?_,λc hc=>?_⟩
    ·have:=this.1;unfold YB at this;rw[hp]at this;simpa using this
    ·have:=this.2;rw[hc]at this;simpa using this
  ·have:=h6 r hr;cases hre:rs[r]? with
   |none=>simp [hre]at this
   |some e=>
    simp only[hre]at this;exact⟨e,rfl,λp hp=>by unfold YB at this;rw[hp]at this;simpa using this⟩
  ·have:=h7 j (c_.2 (dlt j t hj));simp [hi,hj,hji]at this
 have X3:∀(r:Nat) (e:Re),rs[r]?=some e->(e.pr=none->e.f.deps=[])/\(∀p,e.pr=some p->p<ops.size/\∀k∈e.f.deps,k=p\/k∈(Im ops.toList).getD p [])/\(∀c,e.co=some c->c<ops.size):=by
  intro r e hr;have h1:=hcr e (aA hr);unfold Zh at h1;simp only[ax]at h1;refine⟨λhp=>?_,λp hp=>?_,λc hc=>?_⟩
  ·have:=h1.1;rw[hp]at this;simpa using this
  ·have:=h1.1;rw[hp]at this;simp only[ax,aL,aV]at this;exact⟨this.1,λk hk=>by simpa using this.2 k hk⟩
  ·have:=h1.2;rw[hc]at this;simpa using this
 have OD:∀i,i<ops.size->∃v,vs[i]?=some v:=λi hi=>⟨vs[i]' dP,aw dP⟩;have hdd:∀i j t,j≠i->dstOf ops i=some t->dstOf ops j≠some t:=λi j t hji hi=>by
  have hlt:i<ops.size:=by
   rcases cP i ops.size with hlt|tU
   ·exact hlt
   ·simp [dstOf,cI tU]at hi
  obtain⟨v,hv⟩:=OD i hlt;exact(XY i _ v (bR hlt) hv).2.2.2.2.2 j t hji hi
 have QQ:∀γ,Fr ops T0 (λi=>decide (i<ops.size)) (λi=>((vs[i]?).map (·.ev γ)).getD undef) (Tf γ):=λγ=>by
  rw[<-hT γ];refine Fr.all_ hdd ops.size 0 T0 _ _ dP ?_ ?_ ⟨rfl,λi t h=>by simp at h,λt _=>rfl⟩
  ·refine et λi=>?_;rw[cg,cg];rcases cP i ops.size with hlt|tU
   ·rw[List.getElem?_range' hlt];simp [dstOf,hlt]
   ·rw[b_ (by simpa using tU),b_ (by simpa using tU)];rfl
  ·refine et λi=>?_;rw[cg,cg];rcases cP i ops.size with hlt|tU
   ·rw[List.getElem?_range' hlt];obtain⟨v,hv⟩:=OD i hlt;simp [hv]
   ·rw[b_ dP,b_ (by simpa using tU)];rfl
 refine⟨?_,?_,?_,R7⟩
 ·rintro i o la a w ho hli hed ⟨kD,Sd,γ,T,rfl,Tw,hM⟩ Q K hK;have hi:i<ops.size:=(cN.1 ho).1;obtain⟨v,hv⟩:=OD i hi;obtain⟨c1,c2,c3,c4,c5,c6⟩:=XY i o v ho hv;have Ps:la.getD i false=false:=by simp [hli]
  have han:=qI K9 Sd i o ho hed;have abx:(λk=>(la.setIfInBounds i true).getD k false)=s9 (λk=>la.getD k false) i:=by
   funext k;unfold s9;split
   ·subst_vars;have:k<la.size:=dP;simp [this]
   ·rename_i jC;simp [dC (Ne.symm jC)]
  have ahu:∀x j,la.getD j false=true->((vs[j]?).map (·.ev (xE γ i x))).getD undef=((vs[j]?).map (·.ev γ)).getD undef:=by
   intro x j hj;cases hvj:vs[j]? with
   |none=>rfl
   |some vj=>
    have XO:j<ops.size:=by
     rcases cP j ops.size with hlt|tU
     ·exact hlt
     ·simp [cI (show la.size<=j by omega)]at hj
    have XV:ops[j]?=some ops[j]:=bR XO;obtain⟨_,d2,_⟩:=XY j _ vj XV hvj;have haj:=qI K9 Sd j _ XV (Sd j _ XV hj);simp only[l5,bV];refine En.ev_upd λhm=>?_;rcases d2 i hm with rfl|h1
    ·rw[Ps]at hj;cases hj
    ·rw[haj i h1]at Ps;cases Ps
  have adL:∀j t,dstOf ops j=some t->j<ops.size:=λj t hj=>GH;have ZF:∀t∈o.looksAt ops,T[t]?=(Rf γ)[t]?:=by
   intro t hlk;rw[<-hR γ,Kf (QQ γ).sz];by_cases hot:t∈old
   ·rw[aN hot];refine Tw.off t λj hj hd=>?_;have h1:=c1 t hlk j hd;rw[aN hot]at h1;have XO:=adL j t hd;have h2:=qI K9 Sd j _ (bR XO) (Sd j _ (bR XO) hj) i h1;rw[Ps]at h2;cases h2
   ·rw[aH hot];refine Tw.same (QQ γ) (t:=t) λj hj=>?_;have h1:=c1 t hlk j hj;rw[aH hot]at h1;exact⟨han j h1,by simpa using adL j t hj⟩
  have UI:execOp (Act.mk T D0).eval o=execOp (Act.mk (Rf γ) D0).eval o:=by
   refine execOp_congr o (λcs b=>Region.noSelect_spec hns i o cs b ho) λx hx=>?_;cases x with
   |tmp t=>
    have hlk:t∈o.looksAt ops:=bJ _ (List.mem_filterMap.2 ⟨.tmp t,by simpa using hx,rfl⟩);have:=ZF t hlk;simp [Act.eval,cH,this]
   |const _=>rfl
   |global _=>rfl
   |func _=>rfl
  have aen:Region.wanted o (yielded ops T)=Region.wanted o (yielded ops (Rf γ)):=by
   unfold Region.wanted;cases hg:o.guard with
   |none=>rfl
   |some gw=>
    obtain⟨g,want⟩:=gw;have:yielded ops T g=yielded ops (Rf γ) g:=by
     unfold yielded;cases ht:(ops[g]?).bind (·.dst) with
     |none=>rfl
     |some t=>
      have hlk:t∈o.looksAt ops:=bD _ (by simp [hg,ht]);have:=ZF t hlk;simp only[Option.bind_some,this]
    simp only[this]
  have R_:dstOf ops i=o.dst:=by simp [dstOf,ho]
  have agU:Dn ops (λk=>(la.setIfInBounds i true).getD k false):=by
   rw[abx];intro j oj XV hj e he hb;unfold s9 at hj ⊢;split
   ·rfl
   ·by_cases hji:j=i
    ·subst hji;rw[ho]at XV;injection XV with XV;subst XV;exact hed e he hb
    ·rw[aH hji]at hj;exact Sd j oj XV hj e he hb
  have JB:∀x u w',u=v.ev (xE γ i x)->Mem P w0 X w' (iN rs (xE γ i x) (oZ rs (s9 (λk=>la.getD k false) i))++R0)->K ((Act.mk T D0).put o.dst u) w':=by
   intro x u w' hu hM';refine hK _ _ ⟨by simpa using kD,agU,xE γ i x,x8 T (dstOf ops i) u,?_,?_,?_⟩
   ·rw[R_];cases o.dst<;>rfl
   ·rw[abx];have:=Tw.put (i:=i) (val':=λj=>((vs[j]?).map (·.ev (xE γ i x))).getD undef) Ps c6 (λj hj=>ahu x j hj);simpa [hv,hu]using this
   ·rw[abx];exact hM'
  have hcu:∀r,r∈iJ rs i++us.getD i []->r∈oZ rs (λk=>la.getD k false):=by
   intro r hr;rw[rt];unfold lv;rcases aG.1 hr with hr|hr
   ·obtain⟨e,h1,h2⟩:=c5 r hr;obtain⟨e',h3,h4⟩:=vG.1 hr;rw[h1]at h3;injection h3 with h3;subst h3
    rw[h1];simp only[h4,Ps,ak,Bool.and_true];cases hp:e.pr with
    |none=>rfl
    |some p=>exact han p (h2 p hp)
   ·obtain⟨e,h1,h2,h3⟩:=c4 r hr;rw[h1];simp only[ax];refine⟨?_,?_⟩
    ·cases hp:e.pr with
     |none=>rfl
     |some p=>exact han p (h2 p hp)
    ·cases hc:e.co with
     |none=>rfl
     |some c=>
      obtain⟨h4,h5⟩:=h3 c hc;have Pp:=(X3 r e h1).2.2 c hc;simp only[cQ];cases hlc:la.getD c false with
      |false=>rfl
      |true=>
       have:=qI K9 Sd c _ (bR Pp) (Sd c _ (bR Pp) hlc) i h5;rw[Ps]at this;cases this
  have aby:(oZ rs (λk=>la.getD k false)).Perm ((iJ rs i++us.getD i [])++(oZ rs (λk=>la.getD k false)).filter (λr=> !(iJ rs i++us.getD i []).contains r)):=by
   refine Rg ua (aE.2 ⟨c3,ua.filter _,?_⟩) λr=>?_
   ·intro a ha b hb e;subst e;simp only[cS,cW,cQ,bB]at hb;exact hb.2 ha
   ·constructor
    ·intro hr;by_cases hc:r∈iJ rs i++us.getD i []
     ·exact bJ _ hc
     ·exact bD _ (by simp only[cS,cW,cQ,bB];exact⟨hr,hc⟩)
    ·intro hr;rcases aG.1 hr with hr|hr
     ·exact hcu r hr
     ·exact(cS.1 hr).1
  have hM1:Mem P w0 X w (JU rs us γ i++(iN rs γ ((oZ rs (λk=>la.getD k false)).filter (λr=> !(iJ rs i++us.getD i []).contains r))++R0)):=by have:=hM.perm ((aby.filterMap (W8 rs γ)).append_right R0);rw[dJ,aS]at this;exact this
  have ad9:∀r,r∈lr rs i->r ∉ oZ rs (λk=>la.getD k false):=by intro r hr hm;obtain⟨e,h1,h2⟩:=zQ.1 hr;rw[rt]at hm;unfold lv at hm;rw[h1]at hm;simp [h2,hli]at hm
  have X6:(oZ rs (s9 (λk=>la.getD k false) i)).Perm ((lr rs i++us.getD i [])++(oZ rs (λk=>la.getD k false)).filter (λr=> !(iJ rs i++us.getD i []).contains r)):=by
   have hu:=(aE.1 c3).2.1;refine Rg ua (aE.2 ⟨aE.2 ⟨List.nodup_range.filter _,hu,?_⟩,ua.filter _,?_⟩) λr=>?_
   ·intro a ha b hb e;subst e;exact ad9 a ha (hcu a (bD _ hb))
   ·intro a ha b hb e;subst e;simp only[cS,cW,cQ,bB]at hb;rcases aG.1 ha with ha|ha
    ·exact ad9 a ha hb.1
    ·exact hb.2 (bD _ ha)
   ·have kQ:∀e,rs[r]?=some e->(lv rs (s9 (λk=>la.getD k false) i) r=true↔(r∈lr rs i/\e.co≠some i)\/(lv rs (λk=>la.getD k false) r=true/\e.co≠some i)):=by
     intro e he;have hn1:e.pr=some i->∀c,e.co=some c->la.getD c false=true->c=i->False:=λ_ c _ h1 h2=>by subst h2;rw[Ps]at h1;cases h1
     have WD:e.pr=some i->∀c,e.co=some c->c≠i->la.getD c false=false:=λhp c hc jC=>by
      cases hlc:la.getD c false with
      |false=>rfl
      |true=>
       exfalso;have Pp:=(X3 r e he).2.2 c hc;obtain⟨vc,hvc⟩:=OD c Pp;obtain⟨_,_,_,_,d5,_⟩:=XY c _ vc (bR Pp) hvc;obtain⟨e',q1,q2⟩:=d5 r (vG.2 ⟨e,he,hc⟩);rw[he]at q1;injection q1 with q1;subst q1
       have:=qI K9 Sd c _ (bR Pp) (Sd c _ (bR Pp) hlc) i (q2 i hp);rw[Ps]at this;cases this
     unfold lv;rw[he];simp only[ax];constructor
     ·rintro⟨q1,q2⟩;have q3:e.co≠some i:=λhc=>by rw[hc]at q2;simp [s9]at q2
      have q4:(match e.co with|none=>true|some c=> !la.getD c false)=true:=by
       cases hc:e.co with
       |none=>rfl
       |some c=>rw[hc]at q2;have:c≠i:=λh=>q3 (by rw[hc,h]);simpa [s9,this]using q2
      by_cases hp:e.pr=some i
      ·exact .inl ⟨zQ.2 ⟨e,he,hp⟩,q3⟩
      ·refine .inr ⟨⟨?_,q4⟩,q3⟩;cases hp':e.pr with
       |none=>rfl
       |some p=>rw[hp']at q1;have:p≠i:=λh=>hp (by rw[hp',h]);simpa [s9,this]using q1
     ·rintro(⟨q1,q2⟩|⟨⟨q1,q3⟩,q2⟩)
      ·obtain⟨e',q4,q5⟩:=zQ.1 q1;rw[he]at q4;injection q4 with q4;subst q4
       refine⟨by rw[q5];simp [s9],?_⟩;cases hc:e.co with
       |none=>rfl
       |some c=>have jC:c≠i:=λh=>q2 (by rw[hc,h]);have:=WD q5 c hc jC;simp [s9,jC,this]
      ·refine⟨?_,?_⟩
       ·cases hp:e.pr with
        |none=>rfl
        |some p=>rw[hp]at q1;unfold s9;simp only[];split<;>simp_all
       ·cases hc:e.co with
        |none=>rfl
        |some c=>rw[hc]at q3;have jC:c≠i:=λh=>q2 (by rw[hc,h]);simpa [s9,jC]using q3
    rw[rt];constructor
    ·intro hr;have ⟨e,he⟩:∃e,rs[r]?=some e:=by
      cases hh:rs[r]? with
      |none=>unfold lv at hr;rw[hh]at hr;simp at hr
      |some e=>exact⟨e,rfl⟩
     rcases(kQ e he).1 hr with ⟨q1,q2⟩|⟨q1,q2⟩
     ·exact bJ _ (bJ _ q1)
     ·by_cases hu':r∈us.getD i []
      ·exact bJ _ (bD _ hu')
      ·refine bD _ ?_;simp only[cS,cW,cQ,bB];refine⟨rt.2 q1,λhm=>?_⟩;rcases aG.1 hm with hm|hm
       ·obtain⟨e',q4,q5⟩:=vG.1 hm;rw[he]at q4;injection q4 with q4;subst q4
        exact q2 q5
       ·exact hu' hm
    ·intro hr;rcases aG.1 hr with hr|hr
     ·rcases aG.1 hr with hr|hr
      ·obtain⟨e,he,hp⟩:=zQ.1 hr;refine(kQ e he).2 (.inl ⟨hr,λhc=>?_⟩);obtain⟨e',q1,q2⟩:=c5 r (vG.2 ⟨e,he,hc⟩);rw[he]at q1;injection q1 with q1;subst q1
       have:=han i (q2 i hp);rw[Ps]at this;cases this
      ·obtain⟨e,he,q2,q3⟩:=c4 r hr;exact(kQ e he).2 (.inr ⟨rt.1 (hcu r (bD _ hr)),λhc=>(q3 i hc).1 rfl⟩)
     ·simp only[cS,cW,cQ,bB]at hr;have hlr:=rt.1 hr.1;have ⟨e,he⟩:∃e,rs[r]?=some e:=by
       cases hh:rs[r]? with
       |none=>unfold lv at hlr;rw[hh]at hlr;simp at hlr
       |some e=>exact⟨e,rfl⟩
      exact(kQ e he).2 (.inr ⟨hlr,λhc=>hr.2 (bJ _ (vG.2 ⟨e,he,hc⟩))⟩)
  have adz:∀x,iN rs (xE γ i x) ((oZ rs (λk=>la.getD k false)).filter (λr=> !(iJ rs i++us.getD i []).contains r))=iN rs γ ((oZ rs (λk=>la.getD k false)).filter (λr=> !(iJ rs i++us.getD i []).contains r)):=by
   intro x;unfold iN;refine MP λr hr=>?_;have hlr:=rt.1 (cS.1 hr).1;unfold W8;cases he:rs[r]? with
   |none=>rfl
   |some e=>
    simp only[l5,cE];refine En.ev_upd λhm=>?_;unfold lv at hlr;rw[he]at hlr;simp only[ax]at hlr;cases hp:e.pr with
    |none=>rw[(X3 r e he).1 hp]at hm;simp at hm
    |some p=>
     obtain⟨q1,q2⟩:=(X3 r e he).2.1 p hp;have hlp:la.getD p false=true:=by have:=hlr.1;rw[hp]at this;exact this
     rcases q2 i hm with rfl|q3
     ·rw[Ps]at hlp;cases hlp
     ·have:=qI K9 Sd p _ (bR q1) (Sd p _ (bR q1) hlp) i q3;rw[Ps]at this;cases this
  have jO:∀x w',Mem P w0 X w' (DA rs us (xE γ i x) i++(iN rs γ ((oZ rs (λk=>la.getD k false)).filter (λr=> !(iJ rs i++us.getD i []).contains r))++R0))->Mem P w0 X w' (iN rs (xE γ i x) (oZ rs (s9 (λk=>la.getD k false) i))++R0):=by intro x w' h1;have h2:=((X6.filterMap (W8 rs (xE γ i x))).append_right R0).symm;rw[dJ,aS]at h2;refine Mem.perm ?_ h2;have h3:=adz x;unfold iN at h3;rw[h3];exact h1
  obtain⟨o',v',ZC,xg,h⟩:=wS i hi;rw[ho]at ZC;injection ZC with ZC;subst ZC
  rw[hv]at xg;injection xg with xg;subst xg
  have h1:=h γ w _ (λa' w'=>∃u,a'=(Act.mk (Rf γ) D0).put o.dst u/\∃x,u=v.ev (xE γ i x)/\Mem P w0 X w' (DA rs us (xE γ i x) i++(iN rs γ ((oZ rs (λk=>la.getD k false)).filter (λr=> !(iJ rs i++us.getD i []).contains r))++R0))) hM1 (λx w' hMx=>⟨_,rfl,x,rfl,hMx⟩);have ael:(Rf γ).size=T.size:=by rw[<-hR γ,rY,(QQ γ).sz,Tw.sz]
  rw[show (Act.mk (Rf γ) D0).tmps=Rf γ from rfl,<-aen]at h1;rw[show (Act.mk T D0).tmps=T from rfl];split at h1
  ·rename_i hw
   rw[aN hw];unfold Oper.wp at h1 ⊢;rw[UI];refine Y1 ael h1 λu w' hk=>?_;obtain⟨x,hx,hMx⟩:=hk;exact JB x u w' hx (jO x w' hMx)
  ·rename_i hw
   rw[aH hw];obtain⟨u,h2,x,hx,hMx⟩:=h1;rw[VI ael h2];exact JB x u w hx (jO x w hMx)
 ·rintro la a w ⟨kD,Sd,γ,T,rfl,Tw,hM⟩ jb;have hl:∀i,i<ops.size->la.getD i false=true:=λi hi=>by simp [jb i hi]
  have hTT:T=Tf γ:=Tw.ext (QQ γ) λj hj=>⟨hl j hj,by simpa using hj⟩;subst hTT;refine⟨γ,rfl,?_⟩;have:(λi=>la.getD i false)=λi=>decide (i<ops.size):=by
   funext i;rcases cP i ops.size with hlt|tU
   ·rw[hl i hlt];simp [hlt]
   ·simp [cI (show la.size<=i by omega)];omega
  rw[<-this];exact hM
 ·intro w abh;refine⟨by simp,?_,λ_=>mA 0,T0,rfl,⟨rfl,?_,λ_ _=>rfl⟩,?_⟩
  ·intro i o ho hl;rcases cP i ops.size with hlt|tU
   ·simp [hlt]at hl
   ·simp [cI tU]at ho
  ·intro i t hl;rcases cP i ops.size with hlt|tU
   ·simp [hlt]at hl
   ·simp [show ¬i<ops.size by omega]at hl
  ·have:(λi=>(Array.replicate ops.size false).getD i false)=λ_=>false:=by
    funext i;rcases cP i ops.size with hlt|tU
    ·simp [hlt]
    ·simp [show ¬i<ops.size by omega]
   rw[this];exact abh _
theorem EK {id:Nat} {w:World} (hm:P.follows .mixedOrders=true) (AQ:chk ops old vs rs us=true) (gK:vs.length=ops.size) (hT:∀γ,vR T0 (ops.toList.map (·.dst)) (vs.map (·.ev γ))=Tf γ) (hR:∀γ,mb (Tf γ) T0 old=Rf γ)
 (abh:∀γ,Mem P w0 X w.drew (iN rs γ (oZ rs λ_=>false)++R0))
 (wS:∀i,i<ops.size->sG P w0 X ops vs rs us D0 Rf i)
 (tT:∀γ w',Mem P w0 X w' (iN rs γ (oZ rs λi=>decide (i<ops.size))++R0)->Q .normal ⟨Tf γ,D0⟩ w'):(Code.region id ops true).wp P Q ⟨T0,D0⟩ w:=by
 obtain⟨h1,h2,h3,R7⟩:=T5 (T0:=T0) R0 AQ gK hT hR wS;refine aW (S:=λ_=>True) hm bO λ_=>?_;refine Op (St P w0 X ops vs rs D0 T0 R0) (λl a w h=>h.1) (λ_ _ _ _=>bO) (λi o la a w ho hl he hS K hK=>h1 i o la a w ho hl he hS Q K hK) R7 (λla a w hS jb=>?_) _ _ _ _ (Nat.le_of_eq ?_) (h3 _ abh)
 ·obtain⟨γ,rfl,hM⟩:=h2 la a w hS jb;exact tT γ w hM
 ·unfold unl;simp
theorem Yx {p:Nat->Prop}:∀i,i<0->p i:=λi h=>absurd h dP
theorem Vt {p:Nat->Prop} {n:Nat} (h:∀i,i<n->p i) (k:p n):∀i,i<n+1->p i:=λi hi=>by
 rcases Nat.lt_or_eq_of_le (Nat.le_of_lt_succ hi) with h1|h1
 ·exact h i h1
 ·exact h1 ▸ k
variable {i:Nat} {o:Oper} {v:En Value}
theorem Yv (ho:ops[i]?=some o) (hv:vs[i]?=some v) (V:(Nat->Gh)->Value) (L:(Nat->Gh)->List As) (hV:∀γ,v.ev γ=V γ) (hL:∀γ,JU rs us γ i=L γ) (hG:∀γ,DA rs us γ i=L γ)
 (h:∀γ w K,Mem P w0 X w (L γ)->K ((Act.mk (Tf γ) D0).put o.dst (V γ)) w->if Region.wanted o (yielded ops (Act.mk (Tf γ) D0).tmps)=true then Oper.wp P o ⟨Tf γ,D0⟩ w K (λ_ _ _=>False) else K ((Act.mk (Tf γ) D0).put o.dst undef) w):sG P w0 X ops vs rs us D0 Tf i:=
 ⟨o,v,ho,hv,λγ w R K hM hK=>h γ w K (by rw[<-hL];exact hM.left) (by have:=hK (γ i) w (by rw[Om,hG,<-hL];exact hM);rw[Om,hV]at this;exact this)⟩
theorem Yw (ho:ops[i]?=some o) (hv:vs[i]?=some v) (V:(Nat->Gh)->Gh->Value) (L:(Nat->Gh)->List As) (G:(Nat->Gh)->Gh->List As) (hV:∀γ x,v.ev (xE γ i x)=V γ x) (hL:∀γ,JU rs us γ i=L γ) (hG:∀γ x,DA rs us (xE γ i x) i=G γ x)
 (h:∀γ w R K,Mem P w0 X w (L γ++R)->(∀x w',Mem P w0 X w' (G γ x++R)->K ((Act.mk (Tf γ) D0).put o.dst (V γ x)) w')->if Region.wanted o (yielded ops (Act.mk (Tf γ) D0).tmps)=true then Oper.wp P o ⟨Tf γ,D0⟩ w K (λ_ _ _=>False) else K ((Act.mk (Tf γ) D0).put o.dst undef) w):sG P w0 X ops vs rs us D0 Tf i:=
 ⟨o,v,ho,hv,λγ w R K hM hK=>h γ w R K (by rw[<-hL];exact hM) (λx w' hMx=>by have:=hK x w' (by rw[hG];exact hMx);rw[hV]at this;exact this)⟩
theorem JV (DT:List Nat) (ho:ops[i]?=some o) (hv:vs[i]?=some v) (hc:(iJ rs i,lr rs i,us.getD i [])=([],[],DT))
 (h:∀γ w K,Mem P w0 X w (iN rs γ DT)->K ((Act.mk (Tf γ) D0).put o.dst (v.ev γ)) w->if Region.wanted o (yielded ops (Act.mk (Tf γ) D0).tmps)=true then Oper.wp P o ⟨Tf γ,D0⟩ w K (λ_ _ _=>False) else K ((Act.mk (Tf γ) D0).put o.dst undef) w):sG P w0 X ops vs rs us D0 Tf i:=by
 simp only[Prod.mk.injEq]at hc;obtain⟨h1,h2,h3⟩:=hc;refine Yv ho hv (λγ=>v.ev γ) (λγ=>iN rs γ DT) (λ_=>rfl) (λγ=>?_) (λγ=>?_) h
 ·unfold JU;rw[h1,h3];rfl
 ·unfold DA;rw[h2,h3];rfl
theorem Q6 (ci pi ui:List Nat) (ho:ops[i]?=some o) (hv:vs[i]?=some v) (hc:(iJ rs i,lr rs i,us.getD i [])=(ci,pi,ui))
 (h:∀γ w R K,Mem P w0 X w (iN rs γ (ci++ui)++R)->(∀x w',Mem P w0 X w' (iN rs (xE γ i x) (pi++ui)++R)->K ((Act.mk (Tf γ) D0).put o.dst (v.ev (xE γ i x))) w')->if Region.wanted o (yielded ops (Act.mk (Tf γ) D0).tmps)=true then Oper.wp P o ⟨Tf γ,D0⟩ w K (λ_ _ _=>False) else K ((Act.mk (Tf γ) D0).put o.dst undef) w):sG P w0 X ops vs rs us D0 Tf i:=by
 simp only[Prod.mk.injEq]at hc;obtain⟨h1,h2,h3⟩:=hc;refine Yw ho hv (λγ x=>v.ev (xE γ i x)) (λγ=>iN rs γ (ci++ui)) (λγ x=>iN rs (xE γ i x) (pi++ui)) (λ_ _=>rfl) (λγ=>?_) (λγ x=>?_) h
 ·unfold JU;rw[h1,h3];rfl
 ·unfold DA;rw[h2,h3];rfl
theorem aeH (DT:List Nat) (ho:ops[i]?=some o) (hv:vs[i]?=some v) (hc:(iJ rs i,lr rs i,us.getD i [])=([],[],DT))
 (h:∀γ (w:World),(if Region.wanted o (yielded ops (Act.mk (Tf γ) D0).tmps) then (execOp (Act.mk (Tf γ) D0).eval o).run P w else Result.ok (.value undef) w)=Result.ok (.value (v.ev γ)) w) (_:true=true):sG P w0 X ops vs rs us D0 Tf i:=
 JV DT ho hv hc λγ w K _ hK=>by
  have h1:=h γ w;split at h1
  ·rename_i hw
   rw[aN hw];unfold Oper.wp;rw[h1];exact hK
  ·rename_i hw
   rw[aH hw];injection h1 with h1;injection h1 with h1;rw[h1];exact hK
end
section
variable {P:Program} {w0 w w':World} {X F:List Nat} {L M C C' R:List As} {x y:As} {g i:Nat} {t e te:TypeId} {cs:List Value} {d:D} {u:Value}
theorem Mem.split (C:List As) (h:Mem P w0 X w (C++R)):∃F,Sats P w C F/\F.Nodup/\∀(w':World) (C':List As) (G:List Nat),Sats P w' C' G->G.Nodup->(∀g∈G,g∈F\/w.heap.size<=g)->Mod F w w'->Mem P w0 X w' (C'++R):=by
 obtain⟨hm,F,h1,h2,h3⟩:=h;obtain⟨F1,F2,rfl,h4,h5⟩:=nL.1 h1;obtain⟨n1,n2,n3⟩:=aE.1 h2;refine⟨F1,h4,n1,λw' C' G k1 k2 k3 k4=>?_⟩;have hz:=hm.size;have h6:=wY h5;refine⟨hm.trans k4 (λg hg=>h3 g fe),G++F2,nL.2 ⟨G,F2,rfl,k1,th h5 λg hg=>k4.2.2 g (h6 g hg) (λhf=>n3 g hf g hg rfl)⟩,aE.2 ⟨k2,n2,λa ha b hb e=>?_⟩,λg hg=>?_⟩
 ·subst e;rcases k3 a ha with h7|h7
  ·exact n3 a h7 a hb rfl
  ·have:=h6 a hb;omega
 ·exact F8
theorem iQ:Sats P w [x] F↔x.sat P w F:=by
 rw[Sats];constructor
 ·rintro⟨F1,F2,rfl,h1,h2⟩;rw[Sats]at h2;subst h2;simpa using h1
 ·intro h;exact⟨F,[],by simp,h,by rw[Sats]⟩
theorem fJ:Sats P w (x::L) F↔∃F1 F2,F=F1++F2/\x.sat P w F1/\Sats P w L F2:=by rw[Sats]
theorem Mem.emp (h:Mem P w0 X w R) (ht:P.underlying t=some (.slice e)):Mem P w0 X (w.alloc (.cells #[] e)) (.ow (.sl []) t [.slice (some ⟨w.heap.size,0,none⟩) 0 0]::R):=by refine h.gain (F:=[w.heap.size]) ?_ ⟨by simp,by simp⟩ ((Below.refl _ _).alloc (af _) _);rw[own];refine⟨e,_,0,0,_,[],[],ht,rfl,rfl,by unfold maxLen;omega,?_,rfl,by rw[bL,iv];exact⟨rfl,rfl⟩⟩;exact Own.new_ Row.len w [] #[] rfl rfl eb (dj _) rfl
theorem Mem.nil (h:Mem P w0 X w R) (ht:P.underlying t=some (.slice e)):Mem P w0 X w (.ow (.sl []) t [()]::R):=by refine h.gain (F:=[]) ?_ Fresh.nil (Below.refl _ _);rw[own];exact⟨e,none,0,0,_,[],[],ht,rfl,rfl,by unfold maxLen;omega,Own.nil_,rfl,by rw[bL,iv];exact⟨rfl,rfl⟩⟩
theorem Mem.scal (h:Mem P w0 X w R) (ho:own P w d t [] cs):Mem P w0 X w (.ow d t cs::R):=h.gain ho Fresh.nil (Below.refl _ _)
theorem Mem.int (h:Mem P w0 X w R) {n:Int} (hn:(Lit.int .i64 n).wf=true):Mem P w0 X w (.ow (.i .i64 n) t [n]::R):=h.scal (by rw[own];exact⟨rfl,rfl,hn⟩)
theorem Mem.str (h:Mem P w0 X w R) {s:Str} (hn:s.length<=maxLen):Mem P w0 X w (.ow (.s s) t [sv s]::R):=h.scal (by rw[own];exact⟨rfl,rfl,hn⟩)
variable {size bytes:Nat} {ops:Array Oper} {o:Oper} {a:Act} {Q:Exit->Act->World->Prop} {K:Act->World->Prop} {E:Prop} {xs:List D} {A:Option Addr} {n c b m:Nat}
theorem mG (M:Mem P w0 X w (.ow (.sl xs) t [.slice A n c]:: .ow d e cs:: .bk b te cs::R)) (hT:ElemTy P t e size bytes) (kD:P.cellsOf e=size) (zK:o.guard=none) (sl x:Operand)
 (ho:o.op= .call {callee:= .builtin .append,args:=#[sl,x],argTypes:=#[t,t]}) (hs:a.eval sl= .slice A n c) (hx:a.eval x= .slice (some ⟨b,0,none⟩) 1 m) (hl:cs.length=size) (hn:n+1<=maxLen) (h63:(n+1)*bytes<=140737488355328)
 (h:∀g c' w',Mem P w0 X w' (.ow (.sl (xs++[d])) t [.slice (some ⟨g,0,none⟩) (n+1) c']:: .bk b te cs::R)->K (a.put o.dst (.slice (some ⟨g,0,none⟩) (n+1) c')) w'):
 if Region.wanted o (yielded ops a.tmps)=true then Oper.wp P o a w K Q else E:=by
 have hb:Blk w b te cs:=M.blk dR;obtain⟨F,h1,h2,h3⟩:=Mem.split [_,_] M;obtain⟨F1,F2,rfl,h4,h5⟩:=fJ.1 h1;have h5:=iQ.1 h5;refine gL hT kD zK sl x ho hs h4 hx hb h5 hl h2 hn h63 λg c' w' yX k1 k2 k3=>h g c' w' (h3 w' [_] yX (iQ.2 k1) k2.1 (λx hx=>?_) (k3.mono (λy hy=>bJ _ hy)));rcases k2.2 x hx with h6|h6|h6
 ·exact .inl (bJ _ h6)
 ·exact .inl (bD _ h6)
 ·exact .inr dP
theorem pO {α:Type} {f:α->D} (enc:α->List Value) (M:Mem P w0 X w (.ow (.sl []) t [.slice (some ⟨g,0,none⟩) 0 0]::R)) (hT:ElemTy P t e size bytes) (kD:P.cellsOf e=size) (mB:∀x,(enc x).length=size) (hone:∀x,∀u∈enc x,u.oneCell'=true) (zK:o.guard=none) (sl x:Operand)
 (ho:o.op= .call {callee:= .builtin .append,args:=#[sl,x],argTypes:=#[t,t]}) (hs:a.eval sl= .slice (some ⟨g,0,none⟩) 0 0)
 (A2:Option Addr) (m c2 B:Nat) (l2:List α) (hx:a.eval x= .slice A2 m c2) (hr:Reads enc size w B A2 m l2) (hfl:∀x∈l2,∀w',own P w' (f x) e [] (enc x)) (h63:m*bytes<=140737488355328) (hn:m<=maxLen)
 (h:∀A' c' w',Mem P w0 X w' (.ow (.sl (l2.map f)) t [.slice A' m c']::R)->K (a.put o.dst (.slice A' m c')) w'):
 if Region.wanted o (yielded ops a.tmps)=true then Oper.wp P o a w K Q else E:=by
 obtain⟨F,h1,h2,h3⟩:=Mem.split [_] M;have h4:=iQ.1 h1;exact qc enc hT kD mB hone zK sl x ho hs h4 A2 m c2 B l2 hx hr hfl h63 hn λA' c' w' F' k1 k2 k3=>h A' c' w' (h3 w' [_] F' (iQ.2 k1) k2.1 k2.2 k3)
end
theorem FM (n:Int) (h: -9223372036854775808<=n/\n<=9223372036854775807):IntKind.i64.wrap n=n:=by rw[bK];omega
section
variable {P:Program} {w0:World} {X:List Nat} {ops:Array Oper} {vs:List (En Value)} {rs:List Re} {us:List (List Nat)} {D0:List Deferred} {Tf:(Nat->Gh)->Array Value} {i:Nat} {o:Oper} {v:En Value} {DT ci pi:List Nat} {t:TypeId} {B:(Nat->Gh)->Nat} {CS:(Nat->Gh)->List Value} {U U0 U1 U2 U3 U4 U5 U6 U7:(Nat->Gh)->Value}
theorem eh (ho:ops[i]?=some o:=by rfl) (hv:vs[i]?=some v:=by rfl) (hc:(iJ rs i,lr rs i,us.getD i [])=([],[],[]):=by kernel_rfl)
 (h:∀γ w K,K ((Act.mk (Tf γ) D0).put o.dst (v.ev γ)) w->if Region.wanted o (yielded ops (Act.mk (Tf γ) D0).tmps)=true then Oper.wp P o ⟨Tf γ,D0⟩ w K (λ_ _ _=>False) else K ((Act.mk (Tf γ) D0).put o.dst undef) w:=by intro γ w K hK;go_simp;exact hK):sG P w0 X ops vs rs us D0 Tf i:=
 JV [] ho hv hc λγ w K _ hK=>h γ w K hK
theorem e_ (DT:List Nat) (k:Nat) (ho:ops[i]?=some o:=by rfl) (hv:vs[i]?=some v:=by rfl) (hc:(iJ rs i,lr rs i,us.getD i [])=([],[],DT):=by kernel_rfl) (hx:∀γ,(iN rs γ DT)[0]?=some (.bk (B γ) t (CS γ)):=by intro _;rfl) (hk:∀γ,(CS γ)[k]?=some (U γ):=by intro _;rfl)
 (h:∀γ w K,w.cell? ⟨B γ,k,none⟩=some (U γ)->K ((Act.mk (Tf γ) D0).put o.dst (v.ev γ)) w->if Region.wanted o (yielded ops (Act.mk (Tf γ) D0).tmps)=true then Oper.wp P o ⟨Tf γ,D0⟩ w K (λ_ _ _=>False) else K ((Act.mk (Tf γ) D0).put o.dst undef) w:=by intro γ w K c hK;go_simp;exact hK):sG P w0 X ops vs rs us D0 Tf i:=
 JV DT ho hv hc λγ w K M hK=>h γ w K (((M.bl 0 (hx γ)).cell k).trans (hk γ)) hK
theorem ZX (DT:List Nat) (ho:ops[i]?=some o:=by rfl) (hv:vs[i]?=some v:=by rfl) (hc:(iJ rs i,lr rs i,us.getD i [])=([],[],DT):=by kernel_rfl) (hx:∀γ,(iN rs γ DT)[0]?=some (.bk (B γ) t [U0 γ,U1 γ,U2 γ]):=by intro _;rfl)
 (h:∀γ w K,w.cell? ⟨B γ,0,none⟩=some (U0 γ)->w.cell? ⟨B γ,1,none⟩=some (U1 γ)->w.cell? ⟨B γ,2,none⟩=some (U2 γ)->K ((Act.mk (Tf γ) D0).put o.dst (v.ev γ)) w->if Region.wanted o (yielded ops (Act.mk (Tf γ) D0).tmps)=true then Oper.wp P o ⟨Tf γ,D0⟩ w K (λ_ _ _=>False) else K ((Act.mk (Tf γ) D0).put o.dst undef) w:=by intro γ w K c d e hK;go_simp;exact hK):sG P w0 X ops vs rs us D0 Tf i:=
 JV DT ho hv hc λγ w K M hK=>h γ w K ((M.bl 0 (hx γ)).cell 0) ((M.bl 0 (hx γ)).cell 1) ((M.bl 0 (hx γ)).cell 2) hK
theorem lL (DT:List Nat) (ho:ops[i]?=some o:=by rfl) (hv:vs[i]?=some v:=by rfl) (hc:(iJ rs i,lr rs i,us.getD i [])=([],[],DT):=by kernel_rfl) (hx:∀γ,(iN rs γ DT)[0]?=some (.bk (B γ) t [U0 γ,U1 γ,U2 γ,U3 γ,U4 γ,U5 γ,U6 γ,U7 γ]):=by intro _;rfl)
 (h:∀γ w K,w.cell? ⟨B γ,0,none⟩=some (U0 γ)->w.cell? ⟨B γ,1,none⟩=some (U1 γ)->w.cell? ⟨B γ,2,none⟩=some (U2 γ)->w.cell? ⟨B γ,3,none⟩=some (U3 γ)->w.cell? ⟨B γ,4,none⟩=some (U4 γ)->w.cell? ⟨B γ,5,none⟩=some (U5 γ)->w.cell? ⟨B γ,6,none⟩=some (U6 γ)->w.cell? ⟨B γ,7,none⟩=some (U7 γ)->
  K ((Act.mk (Tf γ) D0).put o.dst (v.ev γ)) w->if Region.wanted o (yielded ops (Act.mk (Tf γ) D0).tmps)=true then Oper.wp P o ⟨Tf γ,D0⟩ w K (λ_ _ _=>False) else K ((Act.mk (Tf γ) D0).put o.dst undef) w:=by intro γ w K a b c d e f g h hK;go_simp;exact hK):sG P w0 X ops vs rs us D0 Tf i:=
 JV DT ho hv hc λγ w K M hK=>by have q:=M.bl 0 (hx γ);exact h γ w K (q.cell 0) (q.cell 1) (q.cell 2) (q.cell 3) (q.cell 4) (q.cell 5) (q.cell 6) (q.cell 7) hK
theorem kX (pi:List Nat) (ho:ops[i]?=some o:=by rfl) (hv:vs[i]?=some v:=by rfl) (hc:(iJ rs i,lr rs i,us.getD i [])=([],pi,[]):=by kernel_rfl) (hx:∀γ b,iN rs (xE γ i (mA b)) pi=[.bk b t (CS γ)]:=by intro _ _;rfl)
 (h:∀γ w K,K ((Act.mk (Tf γ) D0).put o.dst (v.ev (xE γ i (mA w.heap.size)))) (w.alloc (.cells (CS γ).toArray t))->if Region.wanted o (yielded ops (Act.mk (Tf γ) D0).tmps)=true then Oper.wp P o ⟨Tf γ,D0⟩ w K (λ_ _ _=>False) else K ((Act.mk (Tf γ) D0).put o.dst undef) w:=by intro γ w K hK;go_simp;exact hK):sG P w0 X ops vs rs us D0 Tf i:=
 Q6 [] pi [] ho hv hc λγ w R K M hK=>h γ w K (hK (mA w.heap.size) _ (by rw[bP,hx];exact M.all))
theorem vI (ci pi:List Nat) (k:Nat) (ho:ops[i]?=some o:=by rfl) (hv:vs[i]?=some v:=by rfl) (hc:(iJ rs i,lr rs i,us.getD i [])=(ci,pi,[]):=by kernel_rfl) (hx:∀γ,iN rs γ ci=[.bk (B γ) t (CS γ)]:=by intro _;rfl) (hk:∀γ,(CS γ)[k]?=some (U γ):=by intro _;rfl) (hy:∀γ,iN rs (xE γ i (mA 0)) pi=[.bk (B γ) t ((CS γ).set k (U0 γ))]:=by intro _;rfl)
 (h:∀γ w K,w.cell? ⟨B γ,k,none⟩=some (U γ)->w.frozen? ⟨B γ,k,none⟩=false->B γ<w.heap.size->K ((Act.mk (Tf γ) D0).put o.dst (v.ev (xE γ i (mA 0)))) (w.setCell ⟨B γ,k,none⟩ (U0 γ))->if Region.wanted o (yielded ops (Act.mk (Tf γ) D0).tmps)=true then Oper.wp P o ⟨Tf γ,D0⟩ w K (λ_ _ _=>False) else K ((Act.mk (Tf γ) D0).put o.dst undef) w:=by intro γ w K c f g hK;go_simp;exact hK):sG P w0 X ops vs rs us D0 Tf i:=
 Q6 ci pi [] ho hv hc λγ w R K M hK=>by rw[bP,hx]at M;have q:=M.bl 0 rfl;exact h γ w K ((q.cell k).trans (hk γ)) (q.frozen k) q.lt (hK (mA 0) _ (by rw[bP,hy];exact M.put k _))
theorem vJ (ci pi:List Nat) (ho:ops[i]?=some o:=by rfl) (hv:vs[i]?=some v:=by rfl) (hc:(iJ rs i,lr rs i,us.getD i [])=(ci,pi,[]):=by kernel_rfl) {A0 A1 A2 A3 A4 A5 A6 A7:(Nat->Gh)->Value} (hx:∀γ,iN rs γ ci=[.bk (B γ) t [A0 γ,A1 γ,A2 γ,A3 γ,A4 γ,A5 γ,A6 γ,A7 γ]]:=by intro _;rfl) (hy:∀γ,iN rs (xE γ i (mA 0)) pi=[.bk (B γ) t [U0 γ,U1 γ,U2 γ,U3 γ,U4 γ,U5 γ,U6 γ,U7 γ]]:=by intro _;rfl)
 (h:∀γ w K,w.frozen? ⟨B γ,0,none⟩=false->w.frozen? ⟨B γ,1,none⟩=false->w.frozen? ⟨B γ,2,none⟩=false->w.frozen? ⟨B γ,3,none⟩=false->w.frozen? ⟨B γ,4,none⟩=false->w.frozen? ⟨B γ,5,none⟩=false->w.frozen? ⟨B γ,6,none⟩=false->w.frozen? ⟨B γ,7,none⟩=false->
  w.cell? ⟨B γ,0,none⟩=some (A0 γ)->w.cell? ⟨B γ,1,none⟩=some (A1 γ)->w.cell? ⟨B γ,2,none⟩=some (A2 γ)->w.cell? ⟨B γ,3,none⟩=some (A3 γ)->w.cell? ⟨B γ,4,none⟩=some (A4 γ)->w.cell? ⟨B γ,5,none⟩=some (A5 γ)->w.cell? ⟨B γ,6,none⟩=some (A6 γ)->w.cell? ⟨B γ,7,none⟩=some (A7 γ)->B γ<w.heap.size->
  K ((Act.mk (Tf γ) D0).put o.dst (v.ev (xE γ i (mA 0)))) ((((((((w.setCell ⟨B γ,0,none⟩ (U0 γ)).setCell ⟨B γ,1,none⟩ (U1 γ)).setCell ⟨B γ,2,none⟩ (U2 γ)).setCell ⟨B γ,3,none⟩ (U3 γ)).setCell ⟨B γ,4,none⟩ (U4 γ)).setCell ⟨B γ,5,none⟩ (U5 γ)).setCell ⟨B γ,6,none⟩ (U6 γ)).setCell ⟨B γ,7,none⟩ (U7 γ))->
  if Region.wanted o (yielded ops (Act.mk (Tf γ) D0).tmps)=true then Oper.wp P o ⟨Tf γ,D0⟩ w K (λ_ _ _=>False) else K ((Act.mk (Tf γ) D0).put o.dst undef) w:=by intro γ w K f0 f1 f2 f3 f4 f5 f6 f7 a b c d e f g h z hK;go_simp;exact hK):sG P w0 X ops vs rs us D0 Tf i:=
 Q6 ci pi [] ho hv hc λγ w R K M hK=>by rw[bP,hx]at M;have q:=M.bl 0 rfl;exact h γ w K (q.frozen 0) (q.frozen 1) (q.frozen 2) (q.frozen 3) (q.frozen 4) (q.frozen 5) (q.frozen 6) (q.frozen 7) (q.cell 0) (q.cell 1) (q.cell 2) (q.cell 3) (q.cell 4) (q.cell 5) (q.cell 6) (q.cell 7) q.lt (hK (mA 0) _ (by rw[bP,hy];exact(((((((M.put 0 _).put 1 _).put 2 _).put 3 _).put 4 _).put 5 _).put 6 _).put 7 _))
theorem eB (ho:ops[i]?=some o:=by rfl) (hv:vs[i]?=some v:=by rfl) (hc:(iJ rs i,lr rs i,us.getD i [])=([],[],[]):=by kernel_rfl)
 (h:∀γ (w:World),(if Region.wanted o (yielded ops (Act.mk (Tf γ) D0).tmps) then (execOp (Act.mk (Tf γ) D0).eval o).run P w else Result.ok (.value undef) w)=Result.ok (.value (v.ev γ)) w:=by intro γ w;kernel_rfl):sG P w0 X ops vs rs us D0 Tf i:=aeH [] ho hv hc h rfl
end
section
variable {P:Program} {Q:Exit->Act->World->Prop} {next:Act->World->Prop} {a:Act} {w:World} {id j:Nat}
theorem dV (h:next a w):Exit.then next Q .normal a w:=h
theorem es (h:Q (.exit j) a w):Exit.then next Q (.exit j) a w:=h
theorem fI (h:Q .ret a w):Exit.then next Q .ret a w:=h
theorem fA (h:Q .normal a w):Exit.inBlock id Q .normal a w:=h
theorem fT (h:Q .normal a w):Exit.inBlock id Q (.exit id) a w:=by show (if id=id then _ else _);rw[aN rfl];exact h
theorem xt (h:Q .ret a w):Exit.inBlock id Q .ret a w:=h
theorem ez {c:Code} {n:Nat} (h:c.wp P (Exit.then (Code.rounds P c Q n) Q) a w):Code.rounds P c Q (n+1) a w:=h
theorem aeD {p:Nat->Prop}:∀n,p n->∃m,p m/\∀k,p k->m<=k:=by
 intro n
 induction n using Nat.strongRecOn with
 |ind n ih=>
  intro h;by_cases hx:∃k,k<n/\p k
  ·obtain⟨k,h1,h2⟩:=hx;exact ih k h1 h2
  ·refine⟨n,h,λk hk=>?_⟩;rcases cP k n with h1|h1
   ·exact absurd ⟨k,h1,hk⟩ hx
   ·exact h1
variable {w0:World} {X:List Nat} {T0:Array Value} {D0:List Deferred}
theorem Oq {ι:Type} {c:Code} (S:ι->(Nat->Value)->Array Value) (Φ:ι->Prop) (L:ι->List As) (μ:ι->Nat) (i0:ι) (hS:S i0 (λk=>T0.getD k undef)=T0) (h0:Φ i0) (M:Mem P w0 X w (L i0))
 (hr:∀i z w K,Φ i->Mem P w0 X w (L i)->(∀i' T' w',S i' (λk=>T'.getD k undef)=T'->Φ i'->μ i'<μ i->Mem P w0 X w' (L i')->K (Act.mk T' D0) w')->c.wp P (Exit.then K Q) ⟨S i z,D0⟩ w):(Code.loop c).wp P Q ⟨T0,D0⟩ w:=by
 let p:Act->World->Nat->Prop:=λa w n=>∃i z,a=⟨S i z,D0⟩/\Φ i/\Mem P w0 X w (L i)/\μ i=n
 have hp:∀a w,(∃n,p a w n)->∃m,p a w m/\∀k,p a w k->m<=k:=λa w ⟨n,h⟩=>aeD n h;obtain⟨f,hf⟩:∃f:Act->World->Nat,∀a w,(∃n,p a w n)->p a w (f a w)/\∀k,p a w k->f a w<=k:=
  ⟨λa w=>Classical.epsilon λm=>p a w m/\∀k,p a w k->m<=k,λa w h=>Classical.epsilon_spec (hp a w h)⟩
 refine wp_loop (λa w=>∃n,p a w n) f ⟨_,i0,_,by rw[hS],h0,M,rfl⟩ λa w hI=>?_;obtain⟨⟨i,z,rfl,h1,h2,h3⟩,_⟩:=hf a w hI;refine hr i z w _ h1 h2 λi' T' w' k1 k2 k3 k4=>?_;have hq:p ⟨T',D0⟩ w' (μ i'):=⟨i',_,by rw[k1],k2,k4,rfl⟩;refine⟨⟨_,hq⟩,?_⟩;have:=(hf _ _ ⟨_,hq⟩).2 _ hq;omega
theorem Y5 {ι:Type} {c:Code} {L0:List As} (_:Mem P w0 X w L0) (S:ι->(Nat->Value)->Array Value) (Φ:ι->Prop) (L:ι->List As)
 (h2:∀K:Act->World->Prop,(∀i T' w',S i (λk=>T'.getD k undef)=T'->Φ i->Mem P w0 X w' (L i)->K (Act.mk T' D0) w')->c.wp P (Exit.then K Q) ⟨T0,D0⟩ w)
 (h1:∀i z w,Φ i->Mem P w0 X w (L i)->Q .normal ⟨S i z,D0⟩ w):c.wp P Q ⟨T0,D0⟩ w:=by
 refine wp_mono (h2 (λa w=>∃i z,a=⟨S i z,D0⟩/\Φ i/\Mem P w0 X w (L i)) λi T' w' k1 k2 k3=>⟨i,_,by rw[k1],k2,k3⟩) ?_;intro e a' w' hq;cases e with
 |normal=>
  obtain⟨i,z,rfl,k2,k3⟩:=hq;exact h1 i z w' k2 k3
 |exit id=>exact hq
 |goto l=>exact hq
 |ret=>exact hq
 |panic ch=>exact hq
 |outgrown=>exact hq
end
def En.map {α β:Type} (g:α->β):En α->En β
 | .c x=> .c (g x)
 | .e i f=> .e i λa=>g (f a)
 | .e2 i j f=> .e2 i j λa b=>g (f a b)
 | .e3 i j k f=> .e3 i j k λa b c=>g (f a b c)
 | .e5 i j k l m f=> .e5 i j k l m λa b c d e=>g (f a b c d e)
 | .e6 i j k l m n f=> .e6 i j k l m n λa b c d e h=>g (f a b c d e h)
def En.map2 {α β δ:Type} (z:En δ) (g:α->β->δ):En α->En β->En δ
 | .c x,y=>y.map (g x)
 |x,.c y=>x.map λx=>g x y
 | .e i f,.e j h=> .e2 i j λa b=>g (f a) (h b)
 | .e i f,.e2 j k h=> .e3 i j k λa b c=>g (f a) (h b c)
 | .e2 i j f,.e k h=> .e3 i j k λa b c=>g (f a b) (h c)
 | .e2 i j f,.e2 k l h=> .e5 i j k l l λa b c d _=>g (f a b) (h c d)
 | .e i f,.e3 j k l h=> .e5 i j k l l λa b c d _=>g (f a) (h b c d)
 | .e3 i j k f,.e l h=> .e5 i j k l l λa b c d _=>g (f a b c) (h d)
 | .e3 i j k f,.e2 l m h=> .e5 i j k l m λa b c d e=>g (f a b c) (h d e)
 | .e2 i j f,.e3 k l m h=> .e5 i j k l m λa b c d e=>g (f a b) (h c d e)
 | .e5 i j k l m f,.e n h=> .e6 i j k l m n λa b c d e x=>g (f a b c d e) (h x)
 |_,_=>z
theorem En.ev_map {β:Type} {g:α->β} {γ:Nat->Gh} (x:En α):(x.map g).ev γ=g (x.ev γ):=by cases x<;>rfl
def comp:Value->Nat->Value
 | .tuple a,k=>a.getD k undef
 | .agg a,k=>a.getD k undef
 |_,_=>undef
def As.cs:As->List Value
 | .bk _ _ cs=>cs
 | .ow _ _ cs=>cs
 |_=>[]
def As.wcs (l:List Value):As->As
 | .bk g t _=> .bk g t l
 |x=>x
def As.wc (k:Nat) (x:As) (v:Value):As:=x.wcs (x.cs.set k v)
def vS (i n:Nat):En Value:= .e i λχ=> .slice χ.a n χ.c
def vA (i n:Nat):En Value:= .e i λχ=> .slice (some ⟨χ.b,0,none⟩) n χ.c
def vV (i:Nat) (k:Int) (a b c d e:Nat) (co en:Int):En Value:= .e i λχ=> .agg #[k,.slice (χ.A 1) a (χ.C 1),.slice (χ.A 2) b (χ.C 2),.slice (χ.A 3) c (χ.C 3),.slice (χ.A 4) d (χ.C 4),.slice (χ.A 5) e (χ.C 5),co,en]
def vT (i:Nat) (k:Int) (a b c d e:Nat) (co en:Int) (y:Value):En Value:= .e i λχ=> .tuple #[.agg #[k,.slice (χ.A 1) a (χ.C 1),.slice (χ.A 2) b (χ.C 2),.slice (χ.A 3) c (χ.C 3),.slice (χ.A 4) d (χ.C 4),.slice (χ.A 5) e (χ.C 5),co,en],y]
def oS (i:Nat) (d:D) (t:TypeId) (n:Nat):En As:= .e i λχ=> .ow d t [.slice χ.a n χ.c]
def oA (i:Nat) (d:D) (t:TypeId) (n:Nat):En As:= .e i λχ=> .ow d t [.slice (some ⟨χ.b,0,none⟩) n χ.c]
def oV (i k:Nat) (d:D) (t:TypeId) (n:Nat):En As:= .e i λχ=> .ow d t [.slice (χ.A k) n (χ.C k)]
def oW (i:Nat) (d:D) (t:TypeId) (k:Int) (a b c e f:Nat) (co en:Int):En As:= .e i λχ=> .ow d t [k,.slice (χ.A 1) a (χ.C 1),.slice (χ.A 2) b (χ.C 2),.slice (χ.A 3) c (χ.C 3),.slice (χ.A 4) e (χ.C 4),.slice (χ.A 5) f (χ.C 5),co,en]
def oB (i:Nat) (t:TypeId) (cs:List Value):En As:= .e i λχ=> .bk χ.b t cs
def z8:List Value:=[.int .i64 0,.slice none 0 0,.slice none 0 0,.slice none 0 0,.slice none 0 0,.slice none 0 0,.int .i64 0,.int .i64 0]
inductive Sv where
 |v (x:En Value)
 |p (d:Nat)
 |x (d k:Nat)
 |la (r:Nat)
 |l (r k:Nat)
 |na (r:Nat)
 |n (r k:Nat)
 |i (n:Int)
 |b (x:Bool)
 |q (j o:Nat)
 |o (b o:Nat)
 |u
def Sv.en (L:List As) (N:List Re) (sH:List (En Value)):Sv->En Value
 | .v y=>y
 | .p d=>sH.getD d (.c undef)
 | .x d k=>(sH.getD d (.c undef)).map λy=>comp y k
 | .la r=> .c (.agg (L.getD r (.fa True)).cs.toArray)
 | .l r k=> .c ((L.getD r (.fa True)).cs.getD k undef)
 | .na r=>(N.getD r ⟨none,none,.c (.fa True)⟩).f.map λy=> .agg y.cs.toArray
 | .n r k=>(N.getD r ⟨none,none,.c (.fa True)⟩).f.map λy=>y.cs.getD k undef
 | .i y=> .c (.int .i64 y)
 | .b y=> .c (.bool y)
 | .q j z=> .e j λχ=> .pointer (some ⟨χ.b,z,none⟩)
 | .o g z=> .c (.pointer (some ⟨g,z,none⟩))
 | .u=> .c undef
def Sv.ev (L:List As) (N:List Re) (γ:Nat->Gh) (sH:List Value):Sv->Value
 | .v y=>y.ev γ
 | .p d=>sH.getD d undef
 | .x d k=>comp (sH.getD d undef) k
 | .la r=> .agg (L.getD r (.fa True)).cs.toArray
 | .l r k=>(L.getD r (.fa True)).cs.getD k undef
 | .na r=> .agg ((N.getD r ⟨none,none,.c (.fa True)⟩).f.ev γ).cs.toArray
 | .n r k=>((N.getD r ⟨none,none,.c (.fa True)⟩).f.ev γ).cs.getD k undef
 | .i y=> .int .i64 y
 | .b y=> .bool y
 | .q j z=> .pointer (some ⟨(γ j).b,z,none⟩)
 | .o g z=> .pointer (some ⟨g,z,none⟩)
 | .u=>undef
def x_ (L:List As) (N:List Re):List (En Value)->List Sv->List (En Value)
 |_,[]=>[]
 |sH,s::t=>s.en L N sH::x_ L N (s.en L N sH::sH) t
def Dy (L:List As) (N:List Re) (γ:Nat->Gh):Array Value->List (Option Nat)->List Value->List Sv->Array Value
 |T,d::ds,sH,s::t=>Dy L N γ (x8 T d (s.ev L N γ sH)) ds (s.ev L N γ sH::sH) t
 |T,_,_,_=>T
theorem Dz {α β:Type} (f:α->β):∀(l:List α) (d:Nat) (z:α),(l.map f).getD d (f z)=f (l.getD d z)
 |[],_,_=>rfl
 |_::_,0,_=>rfl
 |_::t,d+1,z=>Dz f t d z
theorem Sv.en_ev {L:List As} {N:List Re} {γ:Nat->Gh} {sH:List (En Value)} (s:Sv):(s.en L N sH).ev γ=s.ev L N γ (sH.map (·.ev γ)):=by
 cases s with
 |p d=>exact(Dz (·.ev γ) sH d (.c undef)).symm
 |x d k=>exact(En.ev_map _).trans (cU (comp · k) (Dz (·.ev γ) sH d (.c undef)).symm)
 |na r=>exact En.ev_map _
 |n r k=>exact En.ev_map _
 |_=>rfl
theorem K0 {L:List As} {N:List Re} {γ:Nat->Gh}:∀(ss:List Sv) (ds:List (Option Nat)) (T:Array Value) (sH:List (En Value)),Dy L N γ T ds (sH.map (·.ev γ)) ss=vR T ds ((x_ L N sH ss).map (·.ev γ))
 |[],ds,T,sH=>by cases ds<;>rfl
 |s::t,[],T,sH=>rfl
 |s::t,d::ds,T,sH=>by show Dy L N γ (x8 T d (s.ev L N γ (sH.map (·.ev γ)))) ds (s.ev L N γ (sH.map (·.ev γ))::sH.map (·.ev γ)) t=vR (x8 T d ((s.en L N sH).ev γ)) ds ((x_ L N (s.en L N sH::sH) t).map (·.ev γ));rw[<-K0 t ds _ (s.en L N sH::sH),br,Sv.en_ev]
inductive Rw where
 |e (pr:Nat) (co:Option Nat) (f:En As)
 |s (pr:Nat) (co:Option Nat) (r:Nat) (cs:List (Nat × En Value))
 |a (pr:Nat) (co:Option Nat) (r:Nat) (j:Nat)
 |x (pr:Nat) (co:Option Nat) (r:Nat) (j k:Nat)
 |b (pr:Nat) (co:Option Nat) (t:TypeId) (j:Nat)
 |d (pr:Nat) (co:Option Nat) (t:TypeId) (j k:Nat)
def BI:Value->List Value
 | .agg a=>a.toList
 |v=>[v]
def Z1:Option Sv->En Value
 |some (.v x)=>x
 |_=> .c undef
def Rw.re (ss:List Sv) (sH:List Re):Rw->Re
 | .e pr co f=>⟨some pr,co,f⟩
 | .s pr co r cs=>⟨some pr,co,cs.foldl (λf kv=>En.map2 f (As.wc kv.1) f kv.2) (sH.getD r ⟨none,none,.c (.fa True)⟩).f⟩
 | .a pr co r j=>⟨some pr,co,En.map2 (.c (.fa True)) (λx v=>x.wcs (BI v)) (sH.getD r ⟨none,none,.c (.fa True)⟩).f (Z1 ss[j]?)⟩
 | .x pr co r j k=>⟨some pr,co,En.map2 (.c (.fa True)) (λx v=>x.wcs (BI (comp v k))) (sH.getD r ⟨none,none,.c (.fa True)⟩).f (Z1 ss[j]?)⟩
 | .b pr co t j=>⟨some pr,co,En.map2 (.c (.fa True)) (λg v=> .bk g t (BI v)) (.e pr λχ=>χ.b) (Z1 ss[j]?)⟩
 | .d pr co t j k=>⟨some pr,co,En.map2 (.c (.fa True)) (λg v=> .bk g t (BI (comp v k))) (.e pr λχ=>χ.b) (Z1 ss[j]?)⟩
def pp (ss:List Sv):List Re->List Rw->List Re
 |_,[]=>[]
 |sH,r::t=>r.re ss sH::pp ss (sH++[r.re ss sH]) t
def qp:List As->List (Option Nat)->List Re
 |x::L,c::t=>⟨none,c,.c x⟩::qp L t
 |_,_=>[]
def keep:List As->List (Option Nat)->List As
 |x::L,none::t=>x::keep L t
 |_::L,some _::t=>keep L t
 |_,_=>[]
def Ud (γ:Nat->Gh):List Re->List As
 |[]=>[]
 |e::t=>match e.co with
  |none=>e.f.ev γ::Ud γ t
  |some _=>Ud γ t
def aft (L:List As) (cs:List (Option Nat)) (ss:List Sv) (nw:List Rw) (γ:Nat->Gh):List As:=keep L cs++(Ud γ (pp ss (qp L cs) nw)++L.drop cs.length)
section
variable {P:Program} {w0:World} {X:List Nat} {ops:Array Oper} {D0:List Deferred} {Tf Rf:(Nat->Gh)->Array Value} {T0:Array Value} {Q:Exit->Act->World->Prop} {id:Nat} {w:World} {L:List As} {rest:Code}
theorem On {p:Nat->Prop} {n:Nat} (h:∀i,i<n->p i) (k:p n):∀i,i<n+1->p i:=Vt h k
theorem Oz {p:Nat->Prop}:∀i,i<0->p i:=Yx
theorem CJ (M:Mem P w0 X w L) (cs:List (Option Nat)) (ss:List Sv) (nw:List Rw) (us:List (List Nat)) (old:List Nat)
 (wS:∀i,i<ops.size->sG P w0 X ops (x_ L (pp ss (qp L cs) nw) [] ss) (qp L cs++pp ss (qp L cs) nw) us D0 Rf i)
 (tT:∀γ w',Mem P w0 X w' (aft L cs ss nw γ)->Q .normal ⟨Tf γ,D0⟩ w')
 (hm:P.follows .mixedOrders=true:=by kernel_rfl) (AQ:chk ops old (x_ L (pp ss (qp L cs) nw) [] ss) (qp L cs++pp ss (qp L cs) nw) us=true:=by kernel_rfl) (gK:(x_ L (pp ss (qp L cs) nw) [] ss).length=ops.size:=by kernel_rfl)
 (hL0:∀γ,iN (qp L cs++pp ss (qp L cs) nw) γ (oZ (qp L cs++pp ss (qp L cs) nw) λ_=>false)=L.take cs.length:=by intro γ;kernel_rfl)
 (hLf:∀γ,iN (qp L cs++pp ss (qp L cs) nw) γ (oZ (qp L cs++pp ss (qp L cs) nw) λi=>decide (i<ops.size))=keep L cs++Ud γ (pp ss (qp L cs) nw):=by intro γ;kernel_rfl)
 (hT:∀γ,Dy L (pp ss (qp L cs) nw) γ T0 (ops.toList.map (·.dst)) [] ss=Tf γ:=by intro γ;(simp only[vS,vA,vV,vT,oS,oA,oV,oW,oB,z8,br,bL,Dy,Sv.ev,En.ev,En.map,En.map2,As.cs,As.wcs,As.wc,BI,comp,Z1,Rw.re,pp,qp,x8,bC,dK,cK,cJ,bP,List.getD_cons_zero,List.getD_cons_succ,ah,ag,bh,a_,be,cH,bE,bV,lH,bH,bY]);with_reducible rfl)
 (hR:∀γ,mb (Tf γ) T0 old=Rf γ:=by intro γ;(simp only[mb,cH,bE,ah,ag,bV,bh,a_,be]);with_reducible rfl):(Code.region id ops true).wp P Q ⟨T0,D0⟩ w:=
 EK (R0:=L.drop cs.length) hm AQ gK (λγ=>by rw[<-hT γ];exact(K0 ss _ T0 []).symm) hR (λγ=>by rw[hL0,cA];exact M.dw) wS (λγ w' h=>tT γ w' (by unfold aft;rw[<-aS,<-hLf];exact h))
theorem mL (M:Mem P w0 X w L) (cs:List (Option Nat)) (ss:List Sv) (nw:List Rw) (us:List (List Nat)) (old:List Nat)
 (wS:∀i,i<ops.size->sG P w0 X ops (x_ L (pp ss (qp L cs) nw) [] ss) (qp L cs++pp ss (qp L cs) nw) us D0 Rf i)
 (tT:∀γ w',Mem P w0 X w' (aft L cs ss nw γ)->rest.wp P Q ⟨Tf γ,D0⟩ w')
 (hm:P.follows .mixedOrders=true:=by kernel_rfl) (AQ:chk ops old (x_ L (pp ss (qp L cs) nw) [] ss) (qp L cs++pp ss (qp L cs) nw) us=true:=by kernel_rfl) (gK:(x_ L (pp ss (qp L cs) nw) [] ss).length=ops.size:=by kernel_rfl)
 (hL0:∀γ,iN (qp L cs++pp ss (qp L cs) nw) γ (oZ (qp L cs++pp ss (qp L cs) nw) λ_=>false)=L.take cs.length:=by intro γ;kernel_rfl)
 (hLf:∀γ,iN (qp L cs++pp ss (qp L cs) nw) γ (oZ (qp L cs++pp ss (qp L cs) nw) λi=>decide (i<ops.size))=keep L cs++Ud γ (pp ss (qp L cs) nw):=by intro γ;kernel_rfl)
 (hT:∀γ,Dy L (pp ss (qp L cs) nw) γ T0 (ops.toList.map (·.dst)) [] ss=Tf γ:=by intro γ;(simp only[vS,vA,vV,vT,oS,oA,oV,oW,oB,z8,br,bL,Dy,Sv.ev,En.ev,En.map,En.map2,As.cs,As.wcs,As.wc,BI,comp,Z1,Rw.re,pp,qp,x8,bC,dK,cK,cJ,bP,List.getD_cons_zero,List.getD_cons_succ,ah,ag,bh,a_,be,cH,bE,bV,lH,bH,bY]);with_reducible rfl)
 (hR:∀γ,mb (Tf γ) T0 old=Rf γ:=by intro γ;(simp only[mb,cH,bE,ah,ag,bV,bh,a_,be]);with_reducible rfl):(Code.seq (Code.region id ops true) rest).wp P Q ⟨T0,D0⟩ w:=
 ae (CJ M cs ss nw us old wS tT hm AQ gK hL0 hLf hT hR)
theorem aik (M:Mem P w0 X w L) (cs:List (Option Nat)) (ss:List Sv) (us:List (List Nat)) (old:List Nat)
 (wS:∀i,i<ops.size->sG P w0 X ops (x_ L ([]) [] ss) (qp L cs) us D0 Rf i)
 (tT:∀γ w',Mem P w0 X w' L->Q .normal ⟨Tf γ,D0⟩ w')
 (hm:P.follows .mixedOrders=true:=by kernel_rfl) (AQ:chk ops old (x_ L ([]) [] ss) (qp L cs) us=true:=by kernel_rfl) (gK:(x_ L ([]) [] ss).length=ops.size:=by kernel_rfl)
 (hL0:∀γ,iN (qp L cs) γ (oZ (qp L cs) λ_=>false)=L.take cs.length:=by intro γ;kernel_rfl)
 (hLf:∀γ,iN (qp L cs) γ (oZ (qp L cs) λi=>decide (i<ops.size))=L.take cs.length:=by intro γ;kernel_rfl)
 (hT:∀γ,Dy L ([]) γ T0 (ops.toList.map (·.dst)) [] ss=Tf γ:=by intro γ;(simp only[vS,vA,vV,vT,oS,oA,oV,oW,oB,z8,br,bL,Dy,Sv.ev,En.ev,En.map,En.map2,As.cs,As.wcs,As.wc,BI,comp,Z1,Rw.re,pp,qp,x8,bC,dK,cK,cJ,bP,List.getD_cons_zero,List.getD_cons_succ,ah,ag,bh,a_,be,cH,bE,bV,lH,bH,bY]);with_reducible rfl)
 (hR:∀γ,mb (Tf γ) T0 old=Rf γ:=by intro γ;(simp only[mb,cH,bE,ah,ag,bV,bh,a_,be]);with_reducible rfl):(Code.region id ops true).wp P Q ⟨T0,D0⟩ w:=
 EK (R0:=L.drop cs.length) hm AQ gK (λγ=>by rw[<-hT γ];exact(K0 ss _ T0 []).symm) hR (λγ=>by rw[hL0,cA];exact M.dw) wS (λγ w' h=>tT γ w' (by rw[hLf,cA]at h;exact h))
theorem pe (M:Mem P w0 X w L) (cs:List (Option Nat)) (ss:List Sv) (us:List (List Nat)) (old:List Nat)
 (wS:∀i,i<ops.size->sG P w0 X ops (x_ L ([]) [] ss) (qp L cs) us D0 Rf i)
 (tT:∀γ w',Mem P w0 X w' L->rest.wp P Q ⟨Tf γ,D0⟩ w')
 (hm:P.follows .mixedOrders=true:=by kernel_rfl) (AQ:chk ops old (x_ L ([]) [] ss) (qp L cs) us=true:=by kernel_rfl) (gK:(x_ L ([]) [] ss).length=ops.size:=by kernel_rfl)
 (hL0:∀γ,iN (qp L cs) γ (oZ (qp L cs) λ_=>false)=L.take cs.length:=by intro γ;kernel_rfl)
 (hLf:∀γ,iN (qp L cs) γ (oZ (qp L cs) λi=>decide (i<ops.size))=L.take cs.length:=by intro γ;kernel_rfl)
 (hT:∀γ,Dy L ([]) γ T0 (ops.toList.map (·.dst)) [] ss=Tf γ:=by intro γ;(simp only[vS,vA,vV,vT,oS,oA,oV,oW,oB,z8,br,bL,Dy,Sv.ev,En.ev,En.map,En.map2,As.cs,As.wcs,As.wc,BI,comp,Z1,Rw.re,pp,qp,x8,bC,dK,cK,cJ,bP,List.getD_cons_zero,List.getD_cons_succ,ah,ag,bh,a_,be,cH,bE,bV,lH,bH,bY]);with_reducible rfl)
 (hR:∀γ,mb (Tf γ) T0 old=Rf γ:=by intro γ;(simp only[mb,cH,bE,ah,ag,bV,bh,a_,be]);with_reducible rfl):(Code.seq (Code.region id ops true) rest).wp P Q ⟨T0,D0⟩ w:=
 ae (aik M cs ss us old wS tT hm AQ gK hL0 hLf hT hR)
end
section
variable {P:Program} {w0:World} {X:List Nat} {ops:Array Oper} {vs:List (En Value)} {rs:List Re} {us:List (List Nat)} {D0:List Deferred} {Tf:(Nat->Gh)->Array Value} {i:Nat} {o:Oper} {v:En Value}
theorem tn (ci pi ui:List Nat) (ho:ops[i]?=some o:=by rfl) (hv:vs[i]?=some v:=by rfl) (hc:(iJ rs i,lr rs i,us.getD i [])=(ci,pi,ui):=by kernel_rfl)
 (h:∀γ w R K,Mem P w0 X w (iN rs γ (ci++ui)++R)->(∀x w',Mem P w0 X w' (iN rs (xE γ i x) (pi++ui)++R)->K ((Act.mk (Tf γ) D0).put o.dst (v.ev (xE γ i x))) w')->if Region.wanted o (yielded ops (Act.mk (Tf γ) D0).tmps)=true then Oper.wp P o ⟨Tf γ,D0⟩ w K (λ_ _ _=>False) else K ((Act.mk (Tf γ) D0).put o.dst undef) w):sG P w0 X ops vs rs us D0 Tf i:=Q6 ci pi ui ho hv hc h
theorem mW (DT:List Nat) (ho:ops[i]?=some o:=by rfl) (hv:vs[i]?=some v:=by rfl) (hc:(iJ rs i,lr rs i,us.getD i [])=([],[],DT):=by kernel_rfl)
 (h:∀γ w K,Mem P w0 X w (iN rs γ DT)->K ((Act.mk (Tf γ) D0).put o.dst (v.ev γ)) w->if Region.wanted o (yielded ops (Act.mk (Tf γ) D0).tmps)=true then Oper.wp P o ⟨Tf γ,D0⟩ w K (λ_ _ _=>False) else K ((Act.mk (Tf γ) D0).put o.dst undef) w):sG P w0 X ops vs rs us D0 Tf i:=JV DT ho hv hc h
end
section
variable {P:Program} {w0 w:World} {X:List Nat} {R:List As} {f:Nat} {args:Array Value} {Ψ:Ending->World->Prop} {v:Value}
theorem f_ (h:Calls P f args w λe w'=>e= .returned v/\Below w.heap.size w w') (M:Mem P w0 X w R) (hK:∀(x:Gh) w',Mem P w0 X w' R->Ψ (.returned v) w'):Calls P f args w Ψ:=
 h.mono λe w' q=>by obtain⟨rfl,hb⟩:=q;exact hK (mA 0) w' (M.next hb)
theorem QF (h:Calls P f args w λe w'=>e= .returned v/\w=w') (M:Mem P w0 X w R) (hK:∀(x:Gh) w',Mem P w0 X w' R->Ψ (.returned v) w'):Calls P f args w Ψ:=
 h.mono λe w' q=>by obtain⟨rfl,rfl⟩:=q;exact hK (mA 0) _ M
end
structure Hp where
 cells:List Cel
 names:List Str
 slots:List Int
 copies:Int
def Hp.toD (x:Hp):D:= .st [.sl (x.cells.map Cel.toD),.sl (x.names.map .s),.sl (x.slots.map (.i .i64)),.i .i64 x.copies]
theorem uP (x:Hp):x.toD= .st [.sl (x.cells.map Cel.toD),.sl (x.names.map .s),.sl (x.slots.map (.i .i64)),.i .i64 x.copies]:=qf
theorem iP {x:Hp} {cs:List Value} (h:rep w B x.toD cs):∃(oF:Option Addr) (o8:Nat) (nR:Nat) (fU:Option Addr) (fW:Nat) (fV:Nat) (oG:Option Addr) (o9:Nat) (oM:Nat),cs=[.slice oF o8 nR,.slice fU fW fV,.slice oG o9 oM,.int .i64 x.copies]/\rep w B (.sl (x.cells.map Cel.toD)) [.slice oF o8 nR]/\rep w B (.sl (x.names.map .s)) [.slice fU fW fV]/\rep w B (.sl (x.slots.map (.i .i64))) [.slice oG o9 oM]/\(Lit.int .i64 x.copies).wf=true:=by rw[uP,rep]at h;obtain⟨css,rfl,h⟩:=h;rw[gb]at h;obtain⟨c0,css,rfl,k0,h⟩:=h;rw[gb]at h;obtain⟨c1,css,rfl,k1,h⟩:=h;rw[gb]at h;obtain⟨c2,css,rfl,k2,h⟩:=h;rw[gb]at h;obtain⟨c3,css,rfl,k3,h⟩:=h;rw[gb]at h;subst h;obtain⟨A0,n0,d0,rfl⟩:=fD k0;obtain⟨A1,n1,d1,rfl⟩:=fD k1;obtain⟨A2,n2,d2,rfl⟩:=fD k2;rw[rep]at k3;obtain⟨rfl,k3⟩:=k3;exact⟨A0,n0,d0,A1,n1,d1,A2,n2,d2,rfl,k0,k1,k2,k3⟩
theorem Da {x:Hp} {oF:Option Addr} {o8:Nat} {nR:Nat} {fU:Option Addr} {fW:Nat} {fV:Nat} {oG:Option Addr} {o9:Nat} {oM:Nat} {C1 Fnames C2:List Nat} (xY:own prog w (.sl (x.cells.map Cel.toD)) 24 C1 [.slice oF o8 nR]) (lu:own prog w (.sl (x.names.map .s)) 25 Fnames [.slice fU fW fV]) (xZ:own prog w (.sl (x.slots.map (.i .i64))) 26 C2 [.slice oG o9 oM]) (Az:(Lit.int .i64 x.copies).wf=true):own prog w x.toD 28 (C1++(Fnames++(C2++[]))) [.slice oF o8 nR,.slice fU fW fV,.slice oG o9 oM,x.copies]:=by rw[uP,own];exact⟨_,[[.slice oF o8 nR],[.slice fU fW fV],[.slice oG o9 oM],[.int .i64 x.copies]],underlying28,rfl,(fg xY (fg lu (fg xZ (fg (F1:=[]) (by rw[own];exact⟨rfl,rfl,Az⟩) p_))))⟩
theorem nM (x:Hp):szD x.toD=szD (.sl (x.cells.map Cel.toD))+(szD (.sl (x.names.map .s))+(szD (.sl (x.slots.map (.i .i64))))):=by rw[uP];simp only[szD,gv];omega
mutual
def lU:D->Nat
 | .i _ _=>1
 | .s _=>1
 | .b _=>0
 | .sl xs=>eq xs
 | .st fs=>eq fs
def eq:List D->Nat
 |[]=>0
 |x::t=>lU x+eq t
end
mutual
def AB:D->Nat->D
 | .i t _,k=> .i t k
 | .s _,k=> .s (mk k)
 | .b x,_=> .b x
 | .sl xs,k=> .sl (gl xs k)
 | .st fs,k=> .st (gl fs k)
def gl:List D->Nat->List D
 |[],_=>[]
 |x::t,k=>AB x k::gl t (k+lU x)
end
section
variable {P:Program} {w:World}
theorem zY:∀{l:List D} {e:TypeId} {F:List Nat} {css:List (List Value)},iv P w l e F css->l.length=css.length
 |[],_,_,_,h=>by rw[iv]at h;rw[h.2];rfl
 |x::t,_,_,_,h=>by rw[iv]at h;obtain⟨F1,F2,c1,c2,_,rfl,_,h5⟩:=h;simp [zY h5]
theorem Blk.put_ {g:Nat} {t:TypeId} {pre cs post:List Value} {m j o:Nat} (h:Blk w g t (pre++(cs++post))) (hp:pre.length=m) (hj:j<cs.length) (ho:o=m+j) (u:Value):Blk (w.setCell ⟨g,o,none⟩ u) g t (pre++(cs.set j u++post)):=by
 have:=h.set_ o u
 rwa [dI _ _ dP,show o - pre.length=j from by omega,List.set_append_left _ _ hj]at this
theorem Blk.elem {g:Nat} {t:TypeId} {pre cs post:List Value} {m:Nat} (h:Blk w g t (pre++(cs++post))) (hp:pre.length=m) (j:Nat) (hj:j<cs.length):w.cell? ⟨g,m+j,none⟩=some (cs[j]'hj):=by rw[h.cell,cV dP,show m+j - pre.length=j from by omega,cY hj,aw hj]
theorem Mod.poke {F:List Nat} {p:Addr} (hp:p.block∈F) (u:Value):Mod F w (w.setCell p u):=
 ⟨⟨rfl,rfl,rfl⟩,by simp [World.setCell],λg _ hn=>Below.heap_setCell w p u g (by rintro rfl;exact hn hp)⟩
theorem iV {F G:List Nat} {w' w2:World} (h:Mod F w w') (k:Mod G w' w2) (hG:∀g∈G,g∈F):Mod F w w2:=h.trans k (λg hg=> .inl (hG g hg))
theorem gU {F:List Nat} {w' w2:World} (h:Mod F w w') (k:Below w'.heap.size w' w2):Mod F w w2:=h.trans (Mod.of_below (F:=[]) k) (λg hg=>absurd hg dR)
end
theorem yZ {x:Item} {cs:List Value} (h:own prog w x.toD 135 F cs):∃(_:Unit),cs=[.int .i64 x.num,.int .i64 x.den,sv x.text]/\F=[]:=by rw[pQ,own]at h;obtain⟨KW,css,h1,rfl,h⟩:=h;rw[underlying135]at h1;injection h1 with h1;injection h1 with h1;subst h1;replace h:iB prog w [.i .i64 x.num,.i .i64 x.den,.s x.text] [3,3,9] F css:=h;rw[iB]at h;obtain⟨t0,u0,G0,H0,d0,e0,ht,rfl,rfl,k0,h⟩:=h;injection ht with rL rM;subst rL rM;rw[own]at k0;obtain⟨rfl,rfl,_⟩:=k0;rw[iB]at h;obtain⟨t1,u1,G1,H1,d1,e1,ht,rfl,rfl,k1,h⟩:=h;injection ht with rL rM;subst rL rM;rw[own]at k1;obtain⟨rfl,rfl,_⟩:=k1;rw[iB]at h;obtain⟨t2,u2,G2,H2,d2,e2,ht,rfl,rfl,k2,h⟩:=h;injection ht with rL rM;subst rL rM;rw[own]at k2;obtain⟨rfl,rfl,_⟩:=k2;rw[iB]at h;obtain⟨_,rfl,rfl⟩:=h;exact⟨(),rfl,rfl⟩
section
variable {P:Program} {ops:Array Oper} {Q:Exit->Act->World->Prop} {md:Region.Mode} {S:World->Prop} {i:Nat} {oi:Oper} {v:Value} {d:Tmp} {mS:Nat} {jr:Array Bool} {T:Array Value} {D:List Deferred} {w:World}
theorem acd (hi:ops[i]?=some oi) (hd:oi.dst=some d) (hs:Region.noSelect ops=true) (hf:Region.free md ops jr i=true) (hr:(Region.ready md ops jr).contains i=true)
 (hQ:∀c a a' w,Q (.panic c) a w->Q (.panic c) a' w) (hw:Region.wanted oi (yielded ops T)=true) (hy:∀w,S w->(execOp (Act.mk T D).eval oi).run P w= .ok (.value v) w) (hS:S w)
 (h:wpAnyH P md ops Q S mS (jr.setIfInBounds i true) ⟨T.setIfInBounds d v,D⟩ w):wpAnyH P md ops Q S (mS+1) jr ⟨T,D⟩ w:=by
 refine wpAnyH_take (v:=v) hi hs hf hr (λc a w h=>hQ c _ _ w h) (Or.inl ⟨hw,hy⟩) hS ?_;rw[hd];exact h
theorem aeY (hi:ops[i]?=some oi) (hd:oi.dst=some d) (hs:Region.noSelect ops=true) (hf:Region.free md ops jr i=true) (hr:(Region.ready md ops jr).contains i=true)
 (hQ:∀c a a' w,Q (.panic c) a w->Q (.panic c) a' w) (hw:Region.wanted oi (yielded ops T)=false) (hS:S w)
 (h:wpAnyH P md ops Q S mS (jr.setIfInBounds i true) ⟨T.setIfInBounds d undef,D⟩ w):wpAnyH P md ops Q S (mS+1) jr ⟨T,D⟩ w:=by
 refine wpAnyH_take (v:=undef) hi hs hf hr (λc a w h=>hQ c _ _ w h) (Or.inr ⟨hw,rfl⟩) hS ?_;rw[hd];exact h
end
def Tg (_:Nat):Prop:=True
theorem tg:Tg i:=bO
structure Kp (Q:Prop):Prop where
 out:Q
section
variable {P:Program} {ops:Array Oper} {Q:Exit->Act->World->Prop} {md:Region.Mode} {S:World->Prop} {i:Nat} {oi:Oper} {v:Value} {d:Tmp} {mS:Nat} {jr:Array Bool} {T:Array Value} {D:List Deferred} {w:World} {a:Act}
theorem YX (_:Tg i) (hi:ops[i]?=some oi) (hd:oi.dst=some d) (hs:Region.noSelect ops=true) (hf:Region.free md ops jr i=true) (hr:(Region.ready md ops jr).contains i=true)
 (hQ:∀c a a' w,Q (.panic c) a w->Q (.panic c) a' w) (hw:Region.wanted oi (yielded ops T)=true) (hy:∀w,S w->(execOp (Act.mk T D).eval oi).run P w= .ok (.value v) w) (hS:S w)
 (h:wpAnyH P md ops Q S mS (jr.setIfInBounds i true) ⟨T.setIfInBounds d v,D⟩ w):wpAnyH P md ops Q S (mS+1) jr ⟨T,D⟩ w:=acd hi hd hs hf hr hQ hw hy hS h
theorem acb (_:Tg i) (hi:ops[i]?=some oi) (hd:oi.dst=some d) (hs:Region.noSelect ops=true) (hf:Region.free md ops jr i=true) (hr:(Region.ready md ops jr).contains i=true)
 (hQ:∀c a a' w,Q (.panic c) a w->Q (.panic c) a' w) (hw:Region.wanted oi (yielded ops T)=false) (hS:S w)
 (h:wpAnyH P md ops Q S mS (jr.setIfInBounds i true) ⟨T.setIfInBounds d undef,D⟩ w):wpAnyH P md ops Q S (mS+1) jr ⟨T,D⟩ w:=aeY hi hd hs hf hr hQ hw hS h
theorem aii (_:Tg i) (hr:Region.ready md ops jr=[i]) (h:wpOp P ops Q i (λa' w'=>S w'/\wpAnyH P md ops Q S mS (jr.setIfInBounds i true) a' w') a w):wpAnyH P md ops Q S (mS+1) jr a w:=
 dG hr dR (λj hj=>by obtain rfl:j=i:=(by simpa using hj);exact h)
theorem aeX (_:Tg i) (hi:ops[i]?=some oi) (hs:Region.noSelect ops=true) (hf:Region.free md ops jr i=true) (hr:(Region.ready md ops jr).contains i=true)
 (hQ:∀c a w,Q (.panic c) (a.put oi.dst v) w->Q (.panic c) a w) (hy:YieldsIf P ops S oi v a) (hS:S w)
 (h:wpAnyH P md ops Q S mS (jr.setIfInBounds i true) (a.put oi.dst v) w):wpAnyH P md ops Q S (mS+1) jr a w:=wpAnyH_take hi hs hf hr hQ hy hS h
end
theorem ey (i:Nat) (k:Q) (h:Tg i->Kp Q->P:=by
 intro t k;refine YX t (v:=?_) rfl rfl dU dU dU (λ_ _ _ _ h=>h) dU ?_ (by assumption) ?_
 rotate_left
 (intro wq hSw;(try dsimp only at hSw);go_simp;(try with_reducible rfl))
 (try simp only[bh,a_,be])
 exact k.out):P:=h tg ⟨k⟩
theorem gP (i:Nat) (k:Q) (h:Tg i->Kp Q->P:=by
 intro t k;refine acb t rfl rfl dU dU dU (λ_ _ _ _ h=>h) dU (by assumption) ?_
 (try simp only[bh,a_,be])
 exact k.out):P:=h tg ⟨k⟩
theorem k_ (i:Nat) (k:Q) (h:Tg i->Kp Q->P:=by
 intro t k;refine aeX t (v:=?_) rfl dU dU dU (λ_ _ _ h=>h) (Or.inl ⟨by kernel_rfl,?_⟩) (by assumption) ?_
 rotate_left
 (intro wq hSw;(try dsimp only at hSw);go_simp;(try with_reducible rfl))
 (try simp only[Act.put,bh,a_,be])
 exact k.out):P:=h tg ⟨k⟩
theorem iW (k:Q) (h:Kp Q->P:=by
 intro k
 (try simp only[Act.put,bh,a_,be])
 exact k.out):P:=h ⟨k⟩
theorem fZ (i:Nat) (k:Q) (h:Tg i->Kp Q->P:=by intro t k;refine aii t dU ?_;refine dD gO ?_;exact k.out):P:=h tg ⟨k⟩
def zeroV:Vec:=⟨0,[],[],[],[],[],0,0⟩
def Le (v:Vec):Bool:=decide (v.kind=0/\v.code=0/\v.env=0/\v.names.length=0/\v.cls.length=0/\v.levels.length=0/\v.items.length=0/\v.parts.length=0)
def celD (h:Hp) (k:Int):Cel:=if 0<=k then (h.cells[k.toNat]?).getD ⟨0,zeroV,[]⟩ else⟨0,zeroV,[]⟩
theorem iI {h:Hp} {k:Nat} (hk:h.cells[k]?=some c):celD h k=c:=by simp [celD,hk]
def inR (h:Hp) (k:Int):Bool:=decide (0<=k/\k<h.cells.length)
theorem j7 {h:Hp} (hk:0<(celD h k).count):inR h k=true:=by
 unfold celD at hk;split at hk
 ·next h0=>
  cases hc:h.cells[k.toNat]? with
  |none=>rw[hc]at hk;simp at hk
  |some c=>
   have:=(ay.1 hc).1;simp [inR];omega
 ·simp at hk
theorem kU {h:Hp} (hk:inR h k=true):∃(i:Nat) (c:Cel),k=i/\i<h.cells.length/\h.cells[i]?=some c/\celD h k=c:=by simp [inR]at hk;have hi:k.toNat<h.cells.length:=dP;refine⟨k.toNat,h.cells[k.toNat],by omega,hi,by simp [hi],?_⟩;unfold celD;rw[aN hk.1];simp [hi]
def nS (d:Nat) (c:Cel):Bool:=decide (0<c.count)&&(decide (c.parts.length=0)||(decide (c.value.kind=4)&&decide (c.parts.length<=40)&&decide (d≠0)))
def lD (h:Hp):Nat->Int->Bool
 |0,k=>nS 0 (celD h k)
 |d+1,k=>nS (d+1) (celD h k)&&(celD h k).parts.all (lD h d)
def depD (h:Hp):Nat->Int->Bool
 |0,k=>nS 0 (celD h k)&&decide ((celD h k).value.parts.length=0)
 |d+1,k=>nS (d+1) (celD h k)&&(celD h k).parts.all (depD h d)&&decide ((celD h k).value.parts.length=0)
def asm (h:Hp):Nat->Int->Vec
 |0,k=>(celD h k).value
 |d+1,k=>{(celD h k).value with parts:=(celD h k).parts.map (asm h d)}
theorem wO (h:nS 0 c=true):c.parts=[]:=by simp [nS]at h;exact h.2
theorem Cx {h:Hp} (hp:∀c∈h.cells,c.value.parts.length=0) (d:Nat) (k:Int):depD h d k=lD h d k:=by
 have hc:∀k,(celD h k).value.parts.length=0:=by
  intro k;unfold celD;split
  ·cases hc:h.cells[k.toNat]? with
   |none=>rfl
   |some c=>exact hp c (aA hc)
  ·rfl
 induction d generalizing k with
 |zero=>simp [depD,lD,hc]
 |succ d ih=>
  rw[depD,lD,hc];have:depD h d=lD h d:=funext ih;rw[this];simp
theorem zp {h:Hp} (hd:depD h d k=true):0<(celD h k).count:=by cases d<;>(rw[depD]at hd;simp [nS]at hd;omega)
def refs (h:Hp):List Int:=h.slots++h.cells.flatMap (·.parts)
def lM (n:Nat) (l:List Int):List Int:=(List.range n).map λ(i:Nat)=>((l.count (i:Int):Nat):Int)
theorem uX (n:Nat) (l:List Int):(lM n l).length=n:=by simp [lM]
theorem pM (l:List Int) (hi:i<n):(lM n l)[i]?=some ((l.count (i:Int):Nat):Int):=by simp [lM,hi]
theorem MB (n:Nat):lM n []=List.replicate n 0:=by unfold lM;simp [List.map_const']
theorem wJ (l:List Int) (hi:i<n):(lM n l).set i (((l.count (i:Int):Nat):Int)+1)=lM n (l++[(i:Int)]):=by
 apply et;intro j;by_cases hj:j<n
 ·rw[pM _ hj,List.getElem?_set];by_cases hij:i=j
  ·subst hij;simp [uX,hi,bT]
  ·rw[aH hij,pM _ hj];have:¬((i:Int)=(j:Int)):=dP;simp [bT,List.count_singleton,this]
 ·have h1:n<=j:=dP;rw[b_ (by simp [uX,h1]),b_ (by simp [uX,h1])]
def m9 (n:List Int) (i:Nat) (c:Cel):Bool:=decide (n[i]?=some c.count)&&decide (c.value.parts.length=0)&&(decide (c.count≠0)||(decide (c.parts.length=0)&&Le c.value))
def AJ (h:Hp) (c:Cel):Bool:=c.parts.all (inR h)&&decide (c.value.parts.length=0)&&(decide (c.count≠0)||(decide (c.parts.length=0)&&Le c.value))
def s7 (h:Hp) (i:Nat) (s:Str) (k:Int):Bool:=isNm s&& !((h.names.take i).contains s)&&lD h 3 k&&isVec (asm h 3 k)
def Es (h:Hp) (i:Nat) (s:Str) (k:Int):Bool:=isNm s&& !((h.names.take i).contains s)&&depD h 3 k&&isVec (asm h 3 k)
def i_ {α:Type} (f:Nat->α->Bool) (l:List α):Bool:=(List.range l.length).all λi=>match l[i]? with
 |some x=>f i x
 |none=>true
theorem iC {f:Nat->α->Bool} {l:List α}:i_ f l=true↔∀i x,l[i]?=some x->f i x=true:=by
 unfold i_;rw[aV];constructor
 ·intro h i x hx;have:=h i (c_.2 (ay.1 hx).1);rw[hx]at this;exact this
 ·intro h i hi;cases hx:l[i]? with
  |none=>rfl
  |some x=>exact h i x hx
def fG (h:Hp):Bool:=decide (h.names.length=h.slots.length)&&decide (0<=h.copies)&&(refs h).all (inR h)&&i_ (m9 (lM h.cells.length (refs h))) h.cells&&i_ (λi s=>s7 h i s ((h.slots[i]?).getD 0)) h.names
def QP (h:Hp):Bool:=decide (h.names.length=h.slots.length)&&decide (0<=h.copies)&&i_ (λi s=>Es h i s ((h.slots[i]?).getD 0)) h.names&&h.cells.all (AJ h)&&i_ (λi c=>decide ((lM h.cells.length (refs h))[i]?=some c.count)) h.cells
theorem M8 (h:Hp):QP h=fG h:=by
 rw[bg];unfold QP fG;simp only[ax,aL,iC,aV];constructor
 ·rintro⟨⟨⟨⟨h1,h2⟩,h3⟩,h4⟩,h5⟩;have hp:∀c∈h.cells,c.value.parts.length=0:=λc hc=>by have:=h4 c hc;simp [AJ]at this;simp [this.1.2]
  refine⟨⟨⟨⟨h1,h2⟩,λk hk=>?_⟩,λi c hc=>?_⟩,λi s hs=>?_⟩
  ·rcases aG.1 hk with hk|hk
   ·obtain⟨i,hi⟩:=dB.1 hk;have hl:=(ay.1 hi).1;obtain⟨s,hs⟩:∃s,h.names[i]?=some s:=⟨h.names[i]' dP,by simp⟩;have:=h3 i s hs;rw[hi]at this;simp only[Es,ax,bV]at this;exact j7 (zp this.1.2)
   ·obtain⟨c,hc,hk⟩:=dM.1 hk;have:=h4 c hc;simp only[AJ,ax,aV]at this;exact this.1.1 k hk
  ·have a:=h4 c (aA hc);have b:=h5 i c hc;simp only[AJ,ax]at a;simp only[m9,ax];exact⟨⟨by simpa using b,a.1.2⟩,a.2⟩
  ·have a:=h3 i s hs;unfold Es at a;rw[Cx hp]at a;exact a
 ·rintro⟨⟨⟨⟨h1,h2⟩,h3⟩,h4⟩,h5⟩;have hp:∀c∈h.cells,c.value.parts.length=0:=λc hc=>by obtain⟨i,hi⟩:=dB.1 hc;have:=h4 i c hi;simp only[m9,ax,aL]at this;exact this.1.2
  refine⟨⟨⟨⟨h1,h2⟩,λi s hs=>?_⟩,λc hc=>?_⟩,λi c hc=>?_⟩
  ·have a:=h5 i s hs;unfold Es;rw[Cx hp];exact a
  ·obtain⟨i,hi⟩:=dB.1 hc;have a:=h4 i c hi;simp only[m9,ax]at a;simp only[AJ,ax,aV];exact⟨⟨λk hk=>h3 k (bD _ (dM.2 ⟨c,hc,hk⟩)),a.1.2⟩,a.2⟩
  ·have a:=h4 i c hc;simp only[m9,ax,aL]at a;exact a.1.1
theorem V3 {l:List D} (h:∀d∈l,szD d<=B):gv l<=l.length*B:=Gw
theorem wI (h:Hp) (k:Int):szD (celD h k).value.toD+(celD h k).parts.length<=szD h.toD:=by
 have hz:szD zeroV.toD=0:=by rw[go];simp [zeroV,szD,gv]
 unfold celD;split
 ·cases hc:h.cells[k.toNat]? with
  |none=>simp [hz]
  |some c=>
   have h1:=rC (dt (f:=Cel.toD) (aA hc));have h2:=wF c;have h3:=nM h;simp only[szD,au]at h2 h3;simp only[bV];omega
 ·simp [hz]
theorem aaF {h:Hp} (hz:szD h.toD<=4194304) (d:Nat) (k:Int) (hd:depD h d k=true):szD (asm h d k).toD+4194345<=4194345*41 ^ (d+1):=by
 induction d generalizing k with
 |zero=>
  have:=wI h k;rw[asm];omega
 |succ d ih=>
  have h1:=wI h k;rw[depD]at hd;simp only[ax,aL,aV,nS]at hd;obtain⟨⟨⟨_,hl⟩,ha⟩,hv⟩:=hd;have hl:(celD h k).parts.length<=40:=by simp only[bX,ax,aL]at hl;omega
  have e1:=go (celD h k).value;have e2:=go (asm h (d+1) k);have hx:gv ((celD h k).parts.map λp=>(asm h d p).toD)<=40*(4194345*41 ^ (d+1) - 4194345):=by
   refine du (V3 (B:=4194345*41 ^ (d+1) - 4194345) λx hx=>?_) ?_
   ·obtain⟨p,hp,rfl⟩:=List.mem_map.1 hx;have:=ih p (ha p hp);omega
   ·rw[au];exact dd _ hl
  have e3:(asm h (d+1) k).parts=(celD h k).parts.map (asm h d):=by rw[asm]
  have e4:(asm h (d+1) k).items=(celD h k).value.items:=by rw[asm]
  have e5:(asm h (d+1) k).names=(celD h k).value.names:=by rw[asm]
  have e6:(asm h (d+1) k).cls=(celD h k).value.cls:=by rw[asm]
  have e7:(asm h (d+1) k).levels=(celD h k).value.levels:=by rw[asm]
  rw[e3,e4,e5,e6,e7]at e2;simp only[szD,au,List.map_map]at e1 e2;have e8:(Vec.toD∘asm h d)=λp=>(asm h d p).toD:=rfl;rw[e8]at e2;have hp:41 ^ (d+1+1)=41*41 ^ (d+1):=by rw[Nat.pow_succ];omega
  rw[hp];have:1<=41 ^ (d+1):=Nat.one_le_iff_ne_zero.2 dR;generalize 41 ^ (d+1)=M at*;omega
theorem iO (A:Option Addr) (n c:Nat) (w:World):Calls prog 170 #[.slice A n c,()] w λe w'=>e= .returned (.bool (decide (n=0)))/\w=w':=by
 by_cases hn:n=0
 ·obtain rfl:=hn;go_enter func170,ntmps170;go_wp2;refine aZ 1 ?_;rw[dF];go_wp2;go_ret;exact⟨rfl,rfl⟩
 ·have hb:((n:Int) != 0)=true:=dS;have HD:=aa (show decide (n=0)=false by simpa using hn);go_enter func170,ntmps170;go_wp2;go_ret;exact⟨dZ HD.out.symm,rfl⟩
theorem iL (A:Option Addr) (n c:Nat) (w:World):Calls prog 136 #[.slice A n c,()] w λe w'=>e= .returned (.bool (decide (n=0)))/\w=w':=by
 by_cases hn:n=0
 ·obtain rfl:=hn;go_enter func136,ntmps136;go_wp2;refine aZ 1 ?_;rw[dF];go_wp2;go_ret;exact⟨rfl,rfl⟩
 ·have hb:((n:Int) != 0)=true:=dS;have HD:=aa (show decide (n=0)=false by simpa using hn);go_enter func136,ntmps136;go_wp2;go_ret;exact⟨dZ HD.out.symm,rfl⟩
abbrev zvA:Value:= .agg #[.int .i64 0,(),(),(),(),(),.int .i64 0,.int .i64 0]
theorem mU {v:Vec} (h:¬(v.kind=0/\v.code=0/\v.env=0/\v.names.length=0/\v.cls.length=0/\v.levels.length=0/\v.items.length=0/\v.parts.length=0)):Le v=false:=by unfold Le;simpa using h
theorem Pf (v:Vec) (cs:List Value) (w:World) (h:rep w w.heap.size v.toD cs):
 Calls prog 130 #[av cs,zvA] w λe w'=>e= .returned (.bool (Le v))/\Below w.heap.size w w':=by
 obtain⟨Ai,ni,ci,Ap,np,cp,An,nn,cn,Ac,nc,cc,Al,nl,cl,rfl,hv⟩:=iy h;have q0:=((Below.refl w.heap.size w).alloc (af _) (.cells (vc v Ai ni ci Ap np cp An nn cn Ac nc cc Al nl cl).toArray 38)).alloc eA (.cells #[.int .i64 0,(),(),(),(),(),.int .i64 0,.int .i64 0] 38);have li:=hv.it.len;have lp:=hv.pab.2.2;have ln:=hv.na.len;have lc:=hv.ca.len;have ll:=hv.la.len;by_cases h0:v.kind=0
 rotate_left
 ·have HZ:=aa (mU (v:=v) dP);have b0:((v.kind:Int) != 0)=true:=dS;clear h0 li lp ln lc ll;go_enter func130,ntmps130;go_wp2_with (go_at_call 170;((with_reducible refine(iO _ _ _ _).mono ?_);rintro e w1 ⟨rfl,rfl⟩));go_ret;exact⟨dZ HZ.out.symm,q0⟩
 by_cases h1:v.code=0
 rotate_left
 ·have HZ:=aa (mU (v:=v) dP);have b0:((v.kind:Int) != 0)=false:=dS;have b1:((v.code:Int) != 0)=true:=dS;clear h0 h1 li lp ln lc ll;go_enter func130,ntmps130;go_wp2_with (go_at_call 170;((with_reducible refine(iO _ _ _ _).mono ?_);rintro e w1 ⟨rfl,rfl⟩));go_ret;exact⟨dZ HZ.out.symm,q0⟩
 by_cases h2:v.env=0
 rotate_left
 ·have HZ:=aa (mU (v:=v) dP);have b0:((v.kind:Int) != 0)=false:=dS;have b1:((v.code:Int) != 0)=false:=dS;have b2:((v.env:Int) != 0)=true:=dS;clear h0 h1 h2 li lp ln lc ll;go_enter func130,ntmps130;go_wp2_with (go_at_call 170;((with_reducible refine(iO _ _ _ _).mono ?_);rintro e w1 ⟨rfl,rfl⟩));go_ret;exact⟨dZ HZ.out.symm,q0⟩
 by_cases h3:nn=0
 rotate_left
 ·have HZ:=aa (mU (v:=v) dP);have b0:((v.kind:Int) != 0)=false:=dS;have b1:((v.code:Int) != 0)=false:=dS;have b2:((v.env:Int) != 0)=false:=dS;have b3:((nn:Int) != 0)=true:=dS;have d3:decide (nn=0)=false:=dS;clear h0 h1 h2 h3 li lp ln lc ll;go_enter func130,ntmps130;go_wp2_with (go_at_call 170;((with_reducible refine(iO _ _ _ _).mono ?_);rintro e w1 ⟨rfl,rfl⟩));go_ret;exact⟨dZ HZ.out.symm,q0⟩
 by_cases h4:nc=0
 rotate_left
 ·have HZ:=aa (mU (v:=v) dP);have b0:((v.kind:Int) != 0)=false:=dS;have b1:((v.code:Int) != 0)=false:=dS;have b2:((v.env:Int) != 0)=false:=dS;have b3:((nn:Int) != 0)=false:=dS;have d3:decide (nn=0)=true:=dS;have b4:((nc:Int) != 0)=true:=dS;have d4:decide (nc=0)=false:=dS;clear h0 h1 h2 h3 h4 li lp ln lc ll;go_enter func130,ntmps130;go_wp2_with (go_at_call 170;((with_reducible refine(iO _ _ _ _).mono ?_);rintro e w1 ⟨rfl,rfl⟩));go_ret;exact⟨dZ HZ.out.symm,q0⟩
 by_cases h5:nl=0
 rotate_left
 ·have HZ:=aa (mU (v:=v) dP);have b0:((v.kind:Int) != 0)=false:=dS;have b1:((v.code:Int) != 0)=false:=dS;have b2:((v.env:Int) != 0)=false:=dS;have b3:((nn:Int) != 0)=false:=dS;have d3:decide (nn=0)=true:=dS;have b4:((nc:Int) != 0)=false:=dS;have d4:decide (nc=0)=true:=dS;have b5:((nl:Int) != 0)=true:=dS;have d5:decide (nl=0)=false:=dS;clear h0 h1 h2 h3 h4 h5 li lp ln lc ll;go_enter func130,ntmps130;go_wp2_with (go_at_call 170;((with_reducible refine(iO _ _ _ _).mono ?_);rintro e w1 ⟨rfl,rfl⟩));go_ret;exact⟨dZ HZ.out.symm,q0⟩
 by_cases h6:ni=0
 rotate_left
 ·have HZ:=aa (mU (v:=v) dP);have b0:((v.kind:Int) != 0)=false:=dS;have b1:((v.code:Int) != 0)=false:=dS;have b2:((v.env:Int) != 0)=false:=dS;have b3:((nn:Int) != 0)=false:=dS;have d3:decide (nn=0)=true:=dS;have b4:((nc:Int) != 0)=false:=dS;have d4:decide (nc=0)=true:=dS;have b5:((nl:Int) != 0)=false:=dS;have d5:decide (nl=0)=true:=dS;have b6:((ni:Int) != 0)=true:=dS;clear h0 h1 h2 h3 h4 h5 h6 li lp ln lc ll;go_enter func130,ntmps130;go_wp2_with (go_at_call 170;((with_reducible refine(iO _ _ _ _).mono ?_);rintro e w1 ⟨rfl,rfl⟩));go_ret;exact⟨dZ HZ.out.symm,q0⟩
 by_cases h7:np=0
 rotate_left
 ·have HZ:=aa (mU (v:=v) dP);have b0:((v.kind:Int) != 0)=false:=dS;have b1:((v.code:Int) != 0)=false:=dS;have b2:((v.env:Int) != 0)=false:=dS;have b3:((nn:Int) != 0)=false:=dS;have d3:decide (nn=0)=true:=dS;have b4:((nc:Int) != 0)=false:=dS;have d4:decide (nc=0)=true:=dS;have b5:((nl:Int) != 0)=false:=dS;have d5:decide (nl=0)=true:=dS;have b6:((ni:Int) != 0)=false:=dS;have b7:((np:Int) != 0)=true:=dS;clear h0 h1 h2 h3 h4 h5 h6 h7 li lp ln lc ll;go_enter func130,ntmps130;go_wp2_with (go_at_call 170;((with_reducible refine(iO _ _ _ _).mono ?_);rintro e w1 ⟨rfl,rfl⟩));go_ret;exact⟨dZ HZ.out.symm,q0⟩
 have HZ:=aa (show Le v=true by unfold Le;exact aM dP);have b0:((v.kind:Int) != 0)=false:=dS;have b1:((v.code:Int) != 0)=false:=dS;have b2:((v.env:Int) != 0)=false:=dS;obtain rfl:ni=0:=dP;obtain rfl:np=0:=dP;obtain rfl:nn=0:=dP;obtain rfl:nc=0:=dP;obtain rfl:nl=0:=dP;clear li lp ln lc ll;clear h0 h1 h2 h3 h4 h5 h6 h7;go_enter func130,ntmps130;go_wp2_with (go_at_call 170;((with_reducible refine(iO _ _ _ _).mono ?_);rintro e w1 ⟨rfl,rfl⟩));refine aZ 1 ?_;rw[dF];go_wp2_with fail;refine aZ 1 ?_;rw[dF];go_wp2_with fail;go_ret;exact⟨dZ HZ.out.symm,q0⟩
theorem NA (v:Vec) (cs:List Value) (w:World) (h:rep w w.heap.size v.toD cs):
 Calls prog 69 #[av cs,zvA] w λe w'=>e= .returned (.bool (Le v))/\Below w.heap.size w w':=by
 obtain⟨Ai,ni,ci,Ap,np,cp,An,nn,cn,Ac,nc,cc,Al,nl,cl,rfl,hv⟩:=iy h;have q0:=((Below.refl w.heap.size w).alloc (af _) (.cells (vc v Ai ni ci Ap np cp An nn cn Ac nc cc Al nl cl).toArray 38)).alloc eA (.cells #[.int .i64 0,(),(),(),(),(),.int .i64 0,.int .i64 0] 38);have li:=hv.it.len;have lp:=hv.pab.2.2;have ln:=hv.na.len;have lc:=hv.ca.len;have ll:=hv.la.len;by_cases h0:v.kind=0
 rotate_left
 ·have HZ:=aa (mU (v:=v) dP);have b0:((v.kind:Int) != 0)=true:=dS;clear h0 li lp ln lc ll;go_enter func69,ntmps69;go_wp2_with (go_at_call 136;((with_reducible refine(iL _ _ _ _).mono ?_);rintro e w1 ⟨rfl,rfl⟩));go_ret;exact⟨dZ HZ.out.symm,q0⟩
 by_cases h1:ni=0
 rotate_left
 ·have HZ:=aa (mU (v:=v) dP);have b0:((v.kind:Int) != 0)=false:=dS;have b1:((ni:Int) != 0)=true:=dS;clear h0 h1 li lp ln lc ll;go_enter func69,ntmps69;go_wp2_with (go_at_call 136;((with_reducible refine(iL _ _ _ _).mono ?_);rintro e w1 ⟨rfl,rfl⟩));go_ret;exact⟨dZ HZ.out.symm,q0⟩
 by_cases h2:np=0
 rotate_left
 ·have HZ:=aa (mU (v:=v) dP);have b0:((v.kind:Int) != 0)=false:=dS;have b1:((ni:Int) != 0)=false:=dS;have b2:((np:Int) != 0)=true:=dS;clear h0 h1 h2 li lp ln lc ll;go_enter func69,ntmps69;go_wp2_with (go_at_call 136;((with_reducible refine(iL _ _ _ _).mono ?_);rintro e w1 ⟨rfl,rfl⟩));go_ret;exact⟨dZ HZ.out.symm,q0⟩
 by_cases h3:v.code=0
 rotate_left
 ·have HZ:=aa (mU (v:=v) dP);have b0:((v.kind:Int) != 0)=false:=dS;have b1:((ni:Int) != 0)=false:=dS;have b2:((np:Int) != 0)=false:=dS;have b3:((v.code:Int) != 0)=true:=dS;clear h0 h1 h2 h3 li lp ln lc ll;go_enter func69,ntmps69;go_wp2_with (go_at_call 136;((with_reducible refine(iL _ _ _ _).mono ?_);rintro e w1 ⟨rfl,rfl⟩));go_ret;exact⟨dZ HZ.out.symm,q0⟩
 by_cases h4:v.env=0
 rotate_left
 ·have HZ:=aa (mU (v:=v) dP);have b0:((v.kind:Int) != 0)=false:=dS;have b1:((ni:Int) != 0)=false:=dS;have b2:((np:Int) != 0)=false:=dS;have b3:((v.code:Int) != 0)=false:=dS;have b4:((v.env:Int) != 0)=true:=dS;clear h0 h1 h2 h3 h4 li lp ln lc ll;go_enter func69,ntmps69;go_wp2_with (go_at_call 136;((with_reducible refine(iL _ _ _ _).mono ?_);rintro e w1 ⟨rfl,rfl⟩));go_ret;exact⟨dZ HZ.out.symm,q0⟩
 by_cases h5:nn=0
 rotate_left
 ·have HZ:=aa (mU (v:=v) dP);have b0:((v.kind:Int) != 0)=false:=dS;have b1:((ni:Int) != 0)=false:=dS;have b2:((np:Int) != 0)=false:=dS;have b3:((v.code:Int) != 0)=false:=dS;have b4:((v.env:Int) != 0)=false:=dS;have b5:((nn:Int) != 0)=true:=dS;have d5:decide (nn=0)=false:=dS;clear h0 h1 h2 h3 h4 h5 li lp ln lc ll;go_enter func69,ntmps69;go_wp2_with (go_at_call 136;((with_reducible refine(iL _ _ _ _).mono ?_);rintro e w1 ⟨rfl,rfl⟩));go_ret;exact⟨dZ HZ.out.symm,q0⟩
 by_cases h6:nc=0
 rotate_left
 ·have HZ:=aa (mU (v:=v) dP);have b0:((v.kind:Int) != 0)=false:=dS;have b1:((ni:Int) != 0)=false:=dS;have b2:((np:Int) != 0)=false:=dS;have b3:((v.code:Int) != 0)=false:=dS;have b4:((v.env:Int) != 0)=false:=dS;have b5:((nn:Int) != 0)=false:=dS;have d5:decide (nn=0)=true:=dS;have b6:((nc:Int) != 0)=true:=dS;have d6:decide (nc=0)=false:=dS;clear h0 h1 h2 h3 h4 h5 h6 li lp ln lc ll;go_enter func69,ntmps69;go_wp2_with (go_at_call 136;((with_reducible refine(iL _ _ _ _).mono ?_);rintro e w1 ⟨rfl,rfl⟩));go_ret;exact⟨dZ HZ.out.symm,q0⟩
 by_cases h7:nl=0
 rotate_left
 ·have HZ:=aa (mU (v:=v) dP);have b0:((v.kind:Int) != 0)=false:=dS;have b1:((ni:Int) != 0)=false:=dS;have b2:((np:Int) != 0)=false:=dS;have b3:((v.code:Int) != 0)=false:=dS;have b4:((v.env:Int) != 0)=false:=dS;have b5:((nn:Int) != 0)=false:=dS;have d5:decide (nn=0)=true:=dS;have b6:((nc:Int) != 0)=false:=dS;have d6:decide (nc=0)=true:=dS;have b7:((nl:Int) != 0)=true:=dS;have d7:decide (nl=0)=false:=dS;clear h0 h1 h2 h3 h4 h5 h6 h7 li lp ln lc ll;go_enter func69,ntmps69;go_wp2_with (go_at_call 136;((with_reducible refine(iL _ _ _ _).mono ?_);rintro e w1 ⟨rfl,rfl⟩));go_ret;exact⟨dZ HZ.out.symm,q0⟩
 have HZ:=aa (show Le v=true by unfold Le;exact aM dP);have b0:((v.kind:Int) != 0)=false:=dS;have b3:((v.code:Int) != 0)=false:=dS;have b4:((v.env:Int) != 0)=false:=dS;obtain rfl:ni=0:=dP;obtain rfl:np=0:=dP;obtain rfl:nn=0:=dP;obtain rfl:nc=0:=dP;obtain rfl:nl=0:=dP;clear li lp ln lc ll;clear h0 h1 h2 h3 h4 h5 h6 h7;go_enter func69,ntmps69;go_wp2_with (go_at_call 136;((with_reducible refine(iL _ _ _ _).mono ?_);rintro e w1 ⟨rfl,rfl⟩));refine aZ 1 ?_;rw[dF];go_wp2_with fail;refine aZ 1 ?_;rw[dF];go_wp2_with fail;go_ret;exact⟨dZ HZ.out.symm,q0⟩
theorem AW (v:Vec) (cs:List Value) (w:World) (h:rep w w.heap.size v.toD cs):Calls prog 60 #[av cs] w λe w'=>e= .returned (.bool (Le v))/\Below w.heap.size w w':=by obtain⟨Ai,ni,ci,Ap,np,cp,An,nn,cn,Ac,nc,cc,Al,nl,cl,rfl,hv⟩:=iy h;have q0:=(Below.refl w.heap.size w).alloc (af _) (.cells (vc v Ai ni ci Ap np cp An nn cn Ac nc cc Al nl cl).toArray 38);go_enter func60,ntmps60;go_wp2_with fail;refine(Pf v _ _ (fM h q0)).mono ?_;rintro e w1 ⟨rfl,hb1⟩;go_wp2_with fail;go_ret;exact⟨rfl,ij q0 hb1⟩
def cfP (h:Hp) (d:Nat):Prop:=∀(k:Int) (cs:List Value) (w:World),rep w w.heap.size h.toD cs->Calls prog 63 #[av cs,k,d] w λe w'=>e= .returned (.bool (lD h d k))/\Below w.heap.size w w'
theorem sS {h:Hp} (hf:nS d (celD h k)=false):lD h d k=false:=by cases d<;>(rw[lD,hf];try rfl)
theorem zj {h:Hp} (hk:k<0\/(h.cells.length:Int)<=k):(celD h k).count=0:=by
 unfold celD;split
 ·rw[b_ dP];rfl
 ·rfl
theorem u_ {h:Hp} {d:Nat} {k:Int} (hf:nS d (celD h k)=true):lD h d k=(celD h k).parts.all (lD h (d - 1)):=by
 cases d with
 |zero=>rw[lD,hf,wO hf];rfl
 |succ d=>rw[lD,hf];rfl
theorem Br (h:Hp) (d:Nat) (hd:(d:Int)<=100) (hc:(h.cells.length:Int)<=4194304) (ih:∀d',d=d'+1->cfP h d'):cfP h d:=by
 intro k cs w hr;obtain⟨A,n,c,Am,nm,cm,As,ns,ca,rfl,rc,rn,rs,wc⟩:=iP hr;have hl:=(ef rc).1;rw[au]at hl;have q0:=(Below.refl w.heap.size w).alloc (af _) (.cells #[.slice A n c,.slice Am nm cm,.slice As ns ca,h.copies] 28);by_cases k0:k<0
 ·have HZ:=aa (sS (d:=d) (h:=h) (k:=k) (by simp [nS,zj (h:=h) (k:=k) (.inl k0)]));clear hl;go_enter func63,ntmps63;go_wp2_with fail;go_ret;exact⟨dZ HZ.out.symm,q0⟩
 by_cases kn:(n:Int)<=k
 ·have HZ:=aa (sS (d:=d) (h:=h) (k:=k) (by simp [nS,zj (h:=h) (k:=k) (.inr dP)]));clear hl;go_enter func63,ntmps63;go_wp2_with fail;go_ret;exact⟨dZ HZ.out.symm,q0⟩
 obtain⟨j,rfl⟩:∃j:Nat,k=j:=⟨k.toNat,by omega⟩;have hj:j<n:=dP;obtain⟨b,off,x,Ai,ni,ci,Ap,np,cp,An,nn,cn,Ac,nc,cc,Al,nl,cl,Aq,nq,cq,rfl,gD,hx,fE,e0,e1,e2,e3,e4,e5,e6,e7,e8,e9⟩:=lm rc hj;have HX:=aa (iI (h:=h) hx);obtain⟨_,_,_,_,_,_,_,_,_,_,_,_,_,_,_,WQ,Yp,Xi,lK,wcn,rv,rq⟩:=i8 fE;have e9':=cU (λl:List Value=>l[9]?) lK;simp only[ag,ah,cE,bG]at e9';obtain⟨rfl,rfl,rfl⟩:=e9';obtain⟨WQ,Yp,Xi,he,_,_,hq,_⟩:=(qy _ _ _ _).1 rq;injection he with he;injection he with f1 f2 f3;subst f1 f2 f3
 have HQ:=aa hq.len;have bj:(j:Int)<(n:Int):=dP;have yb:b<w.heap.size:=gD;have q1:=q0.alloc eA (.cells #[x.count,x.value.kind,.slice Ai ni ci,.slice Ap np cp,.slice An nn cn,.slice Ac nc cc,.slice Al nl cl,x.value.code,x.value.env,.slice Aq nq cq] 43);clear hl hx lK rv rq;by_cases hcn:x.count<=0
 ·have HZ:=aa (sS (d:=d) (h:=h) (k:=(j:Int)) (by rw[HX.out];simp [nS];omega));go_enter func63,ntmps63;go_wp2_with fail;go_ret;exact⟨dZ HZ.out.symm,q0⟩
 by_cases hz:nq=0
 ·have hf:nS d (celD h (j:Int))=true:=by rw[HX.out];simp only[nS,HQ.out,hz];simp;omega
  have HZ:Hid (lD h d (j:Int)=true):=aa (by rw[u_ hf,HX.out,aR.1 (HQ.out.trans hz)];rfl);obtain rfl:=hz;clear hf;go_enter func63,ntmps63;go_wp2_with fail;refine aZ 1 ?_;rw[dF];go_wp2_with fail;go_ret;exact⟨dZ HZ.out.symm,q1⟩
 have hzp:0<nq:=dP;by_cases hbad:x.value.kind≠4\/40<nq\/d=0
 ·have HZ:=aa (sS (d:=d) (h:=h) (k:=(j:Int)) sE);rcases(show (x.value.kind != 4)=true\/((x.value.kind != 4)=false/\(40:Int)<nq)\/((x.value.kind != 4)=false/\¬(40:Int)<nq/\((d:Int)==0)=true) by
   by_cases a4:x.value.kind=4
   ·right;by_cases a40:40<nq
    ·left;exact⟨by simpa using a4,by omega⟩
    ·right;exact⟨by simpa using a4,by omega,by simp;omega⟩
   ·left;simpa using a4) with t4|⟨t4,t40⟩|⟨t4,t40,td⟩
  all_goals
   clear hbad hz;go_enter func63,ntmps63;go_wp2_with fail;go_ret;exact⟨dZ HZ.out.symm,q1⟩
 obtain⟨d',rfl⟩:∃d',d=d'+1:=⟨d - 1,by omega⟩;have t4:(x.value.kind != 4)=false:=dS;have t40:¬(40:Int)<nq:=dP;have td:(((d'+1:Nat):Int)==0)=false:=dS;have hf:nS (d'+1) (celD h (j:Int))=true:=by rw[HX.out];simp only[nS,HQ.out];simp;omega
 have HR:=aa (show lD h (d'+1) (j:Int)=x.parts.all (lD h d') by rw[u_ hf,HX.out];rfl);have xo:=aa (ih d' rfl);have kh:Blk ((w.alloc (.cells #[.slice (some ⟨b,off,none⟩) n c,.slice Am nm cm,.slice As ns ca,h.copies] 28)).alloc (.cells #[x.count,x.value.kind,.slice Ai ni ci,.slice Ap np cp,.slice An nn cn,.slice Ac nc cc,.slice Al nl cl,x.value.code,x.value.env,.slice Aq nq cq] 43)) w.heap.size 28 [.slice (some ⟨b,off,none⟩) n c,.slice Am nm cm,.slice As ns ca,h.copies]:=(Blk.new' (l:=[.slice (some ⟨b,off,none⟩) n c,.slice Am nm cm,.slice As ns ca,.int .i64 h.copies])).al;clear hf ih hbad hz;go_enter func63,ntmps63;go_wp2_with fail;go_loopw [56] (λv56 wr=>∃m:Nat,m<=nq/\v56= .int .i64 m/\(x.parts.take m).all (lD h d')=true/\Blk wr w.heap.size 28 [.slice (some ⟨b,off,none⟩) n c,.slice Am nm cm,.slice As ns ca,h.copies]/\Below w.heap.size w wr) (λv56 _=>nq - (intOf v56).toNat)
 case atStart=>exact⟨0,by omega,rfl,by simp,kh,q1⟩
 case round=>
  clear kh q1;obtain⟨m,hm,rfl,jb,kh,bb⟩:=hrel;obtain⟨g0,g1,g2,g3⟩:=kh.c4;have Kw:=aa jb;clear jb;by_cases hlt:m<nq
  ·obtain⟨b2,o2,y,rfl,jS,hy,hc2⟩:=(hq.below bb).at_ hlt;have c2:=hc2 0 _ rfl;simp only[cu,cF]at c2;have HY:=aa hy;clear hc2 hy;have Hr:=aa hr;clear hr;go_wp2_with fail;refine(xo.out y _ _ (fb Hr.out bb bb.size)).mono ?_;rintro e w3 ⟨rfl,lE⟩;obtain⟨hc3,hf3⟩:=fY lE;have z3:=lE.size;(try simp only[dW,dT,dX]at hc3 hf3 z3);cases hfy:lD h d' y
   ·have HF:=aa hfy;clear hfy;go_wp2_with fail;go_ret;exact⟨dZ (by rw[HR.out];exact(nN HY.out HF.out).symm),ij bb lE⟩
   ·have HF:=aa hfy;clear hfy;go_wp2_with fail;go_roundw
    case rel=>exact⟨m+1,by omega,by go_num,iY HY.out Kw.out HF.out,kh.next lE,ij bb lE⟩
    case measure=>simp [intOf];omega
  ·obtain rfl:m=nq:=dP;go_wp2_with fail;go_ret;exact⟨dZ (by rw[HR.out,<-Kw.out,aC (by rw[HQ.out];omega)]),bb⟩
theorem zl (h:Hp) (hc:(h.cells.length:Int)<=4194304):∀d:Nat,(d:Int)<=100->cfP h d
 |0,hd=>Br h 0 hd hc (λd' e=>by omega)
 |d+1,hd=>Br h (d+1) hd hc (λd' e=>by obtain rfl:d=d':=dP;exact zl h hc d dP)
end Go.Proofs.YtekcpadlmfaihaaGreat
