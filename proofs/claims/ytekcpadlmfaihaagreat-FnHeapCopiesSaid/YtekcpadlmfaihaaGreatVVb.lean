/- Parts of the validity of vectors: what length, labelsValid, itemValid and their kin return. -/
import Derived.Test.YtekcpadlmfaihaaGreatVNu
import Derived.Deep.DeepCutAuto
namespace Go.Proofs.YtekcpadlmfaihaaGreat
open Go.RowKit Proofs.Tryz
set_option maxHeartbeats 2000000
set_option maxRecDepth 100000
set_option linter.unusedSimpArgs false
set_option linter.unusedVariables false
variable {k:Nat} {α:Type} {v x:Vec}
abbrev av (cs:List Value):Value:= .agg cs.toArray
def lenV (v:Vec):Nat:=if v.kind=5 then 1 else v.items.length+v.parts.length
theorem wV (v:Vec):lenV v<=v.items.length+v.parts.length+1:=by unfold lenV;split<;>omega
theorem pC (v:Vec) (cs:List Value) (w:World) (h:rep w w.heap.size v.toD cs) (hl:v.items.length+v.parts.length<=9223372036854775807):
 Calls prog 107 #[av cs] w λe w'=>e= .returned (.int .i64 (lenV v))/\Below w.heap.size w w':=by
 obtain⟨Ai,ni,ci,Ap,np,cp,An,nn,cn,Ac,nc,cc,Al,nl,cl,rfl,hv⟩:=iy h;rw[hv.it.len,hv.pab.2.2]at hl;have HI:=aa hv.it.len;have HP:=aa hv.pab.2.2;by_cases hk:v.kind=5
 ·have hd:(v.kind==5)=true:=jg;have HK:=aa hk;clear hk;go_enter func107,ntmps107;go_wp2_with fail;go_ret;exact⟨eZ (by rw[lenV,aN HK.out];rfl),(Below.refl _ _).alloc (af _) _⟩
 ·have hd:(v.kind==5)=false:=jg;go_enter func107,ntmps107;go_wp2_with fail;go_ret;exact⟨eZ (by rw[lenV,aH hk,HI.out,HP.out];omega),(Below.refl _ _).alloc (af _) _⟩
theorem lI (v:Vec) (cs:List Value) (w:World) (h:rep w w.heap.size v.toD cs) (hl:v.items.length+v.parts.length<=9223372036854775807):
 Calls prog 118 #[av cs] w λe w'=>e= .returned (.int .i64 (lenV v))/\Below w.heap.size w w':=by
 obtain⟨Ai,ni,ci,Ap,np,cp,An,nn,cn,Ac,nc,cc,Al,nl,cl,rfl,hv⟩:=iy h;rw[hv.it.len,hv.pab.2.2]at hl;have HI:=aa hv.it.len;have HP:=aa hv.pab.2.2;by_cases hk:v.kind=5
 ·have hd:(v.kind==5)=true:=jg;have HK:=aa hk;clear hk;go_enter func118,ntmps118;go_wp2_with fail;go_ret;exact⟨eZ (by rw[lenV,aN HK.out];rfl),(Below.refl _ _).alloc (af _) _⟩
 ·have hd:(v.kind==5)=false:=jg;go_enter func118,ntmps118;go_wp2_with fail;go_ret;exact⟨eZ (by rw[lenV,aH hk,HI.out,HP.out];omega),(Below.refl _ _).alloc (af _) _⟩
def atomK (k:Int):Bool:=decide (1<=k/\k<=3)
theorem oY (v:Vec) (cs:List Value) (w:World) (h:rep w w.heap.size v.toD cs):
 Calls prog 99 #[av cs] w λe w'=>e= .returned (.bool (atomK v.kind))/\Below w.heap.size w w':=by
 obtain⟨Ai,ni,ci,Ap,np,cp,An,nn,cn,Ac,nc,cc,Al,nl,cl,rfl,hv⟩:=iy h;go_enter func99,ntmps99;go_wp2_with fail;all_goals (go_ret;refine⟨dZ ?_,(Below.refl _ _).alloc (af _) _⟩)
 all_goals (rw[atomK,eq_comm,bg];simp_all<;>omega)
def itemOK (kind:Int) (x:Item):Bool:=
 eI x||(if kind=1 then x.text.isEmpty&&(x.den==1)&&(x.num==0||x.num==1) else if kind=2 then nZ x else if kind=3 then (x.num==0)&&(x.den==1)&&decide (x.text.length<=60) else false)
theorem Iz (kind:Int) (x:Item) (w:World) (hx:itOK x):Calls prog 189 #[kind,Me x] w λe w'=>e= .returned (.bool (itemOK kind x))/\Below w.heap.size w w':=by
 have hl:x.text.length<=9223372036854775807:=hx.2.2;have q0:=(Below.refl w.heap.size w).alloc (af _) (.cells #[x.num,x.den,sv x.text] 135);go_enter func189,ntmps189;go_wp2_with fail;refine(kJ x _).mono ?_;rintro e w1 ⟨rfl,hb1⟩;obtain⟨hc1,_⟩:=fY hb1;simp only[dT]at hc1;have q1:=ij q0 hb1;cases hm:eI x with
 |true=>
  go_wp2_with fail;go_ret;exact⟨dZ (by rw[itemOK,hm];rfl),q1⟩
 |false=>
  by_cases k1:kind=1
  ·subst k1;go_wp2_with fail;all_goals (go_ret;refine⟨dZ ?_,q1⟩)
   all_goals (rw[itemOK,hm,eq_comm,aq];simp [*])
  by_cases k2:kind=2
  ·subst k2;go_wp2_with (first|(go_at_call 163;((with_reducible refine(pA x _).mono ?_);rintro e w2 ⟨rfl,jS⟩)));go_ret;exact⟨dZ (by rw[itemOK,hm];rfl),ij q1 jS⟩
  by_cases k3:kind=3
  ·subst k3;go_wp2_with fail;all_goals (go_ret;refine⟨dZ ?_,q1⟩)
   all_goals (rw[itemOK,hm,eq_comm,aq,bg];simp [*]<;>omega)
  have e1:(kind==1)=false:=by simpa using k1
  have e2:(kind==2)=false:=ot;have e3:(kind==3)=false:=by simpa using k3
  have HR:=aa (show itemOK kind x=false by rw[itemOK,hm,aH k1,aH k2,aH k3];rfl);clear k1 k2 k3;go_wp2_with fail;go_ret;exact⟨dZ HR.out.symm,q1⟩
theorem PK (kind:Int) (x:Item) (w:World) (hx:itOK x):Calls prog 174 #[kind,Me x] w λe w'=>e= .returned (.bool (itemOK kind x))/\Below w.heap.size w w':=by
 have hl:x.text.length<=9223372036854775807:=hx.2.2;have q0:=(Below.refl w.heap.size w).alloc (af _) (.cells #[x.num,x.den,sv x.text] 135);cases hm:eI x with
 |true=>
  obtain rfl:x=⟨0,0,[]⟩:=by simpa [eI]using hm
  clear hm;go_enter func174,ntmps174;go_wp2_with fail;go_ret;exact⟨rfl,q0⟩
 |false=>
  have jC:¬x=⟨0,0,[]⟩:=by intro h;rw[h]at hm;cases hm
  have h3:¬(x.num=0/\x.den=0/\x.text=[]):=by rintro⟨a,b,c⟩;apply jC;cases x;simp_all
  have H3:=aa h3;clear jC h3;by_cases k1:kind=1
  ·subst k1;go_enter func174,ntmps174;go_wp2_with (first|(go_at_call 68;((with_reducible refine(gj _ _ _ _).mono ?_);rintro e w1 ⟨rfl,rfl⟩)));all_goals first|(exfalso;apply H3.out;exact⟨by assumption,by assumption,by assumption⟩)|(go_ret;refine⟨dZ ?_,(Below.refl _ _).alloc (af _) _⟩)
   all_goals (rw[itemOK,hm,eq_comm,aq,bg];simp [*]<;>omega)
  by_cases k2:kind=2
  ·subst k2;go_enter func174,ntmps174;go_wp2_with (first|(go_at_call 190;((with_reducible refine(tj ⟨_,_,_⟩ _).mono ?_);rintro e w2 ⟨rfl,jS⟩)));all_goals first|(exfalso;apply H3.out;exact⟨by assumption,by assumption,by assumption⟩)|(go_ret;refine⟨dZ ?_,by first|exact ij ((Below.refl _ _).alloc (af _) _) jS|exact(Below.refl _ _).alloc (af _) _⟩)
   all_goals (rw[itemOK,hm];cases x;simp_all)
  by_cases k3:kind=3
  ·subst k3;go_enter func174,ntmps174;go_wp2_with fail;all_goals first|(exfalso;apply H3.out;exact⟨by assumption,by assumption,by assumption⟩)|(go_ret;refine⟨dZ ?_,(Below.refl _ _).alloc (af _) _⟩)
   all_goals (rw[itemOK,hm,eq_comm,aq,bg];simp [*]<;>omega)
  have e1:(kind==1)=false:=by simpa using k1
  have e2:(kind==2)=false:=ot;have e3:(kind==3)=false:=by simpa using k3
  have HR:=aa (show itemOK kind x=false by rw[itemOK,hm,aH k1,aH k2,aH k3];rfl);clear k1 k2 k3;go_enter func174,ntmps174;go_wp2_with fail;all_goals first|(exfalso;apply H3.out;exact⟨by assumption,by assumption,by assumption⟩)|(go_ret;exact⟨dZ HR.out.symm,(Below.refl _ _).alloc (af _) _⟩)
theorem Reads.tk {enc:α->List Value} {s:Nat} {w:World}{B n:Nat} {A:Option Addr} {l:List α} (h:Reads enc s w B A n l) (hk:k<=n):Reads enc s w B A k (l.take k):=by
 refine⟨by rw[de,h.1];omega,λh0=>?_⟩;obtain⟨b,off,e,hb,hc⟩:=h.2 dP;refine⟨b,off,e,hb,λi x j u hx hu=>hc i x j u ?_ hu⟩;rw[List.getElem?_take]at hx;split at hx
 ·exact hx
 ·cases hx
def vE:List Str->List Str->Bool
 |_,[]=>true
 |seen,e::t=>(!e.isEmpty&&decide (e.length<=60)&& !seen.contains e)&&vE (seen++[e]) t
def mF (l:List Str) (rO:Nat):Bool:=decide (l.length<=rO)&&vE [] l
theorem JO {l:List Str} {e:Str} (h:l[k]?=some e):vE (l.take k) (l.drop k)=((!e.isEmpty&&decide (e.length<=60)&& !(l.take k).contains e)&&vE (l.take (k+1)) (l.drop (k+1))):=by obtain⟨hk,he⟩:=ay.1 h;rw[cR hk,he,vE,eJ h]
theorem uI (A:Option Addr) (n c:Nat) (l:List Str) (rO:Nat) (w:World) (hr:Reads encS 1 w w.heap.size A n l) (hs:∀e∈l,e.length<=maxLen) (hn:n<=c) (hc:c<=maxLen) (hm:(rO:Int)<=1000):
 Calls prog 188 #[.slice A n c,rO] w λe w'=>e= .returned (.bool (mF l rO))/\Below w.heap.size w w':=by
 unfold maxLen at hc;have kO:=hr.len;by_cases hq:rO<n
 ·have hd:decide ((rO:Int)<(n:Int))=true:=dS;have HR:=aa (show mF l rO=false by rw[mF,kO,aK dP];rfl);clear kO;go_enter func188,ntmps188;go_wp2_with fail;go_ret;exact⟨dZ HR.out.symm,Below.refl _ _⟩
 have HR:=aa (show mF l rO=vE [] l by rw[mF,kO,aM dP];rfl);have HL:=aa kO;have hd:decide ((rO:Int)<(n:Int))=false:=dS;clear kO;go_enter func188,ntmps188;go_wp2_with fail;go_loop [13] (λi=>∃k:Nat,k<=n/\i= .int .i64 k/\vE [] l=vE (l.take k) (l.drop k)) (λi=>n - (intOf i).toNat)
 case atStart=>exact⟨0,by omega,rfl,rfl⟩
 case round=>
  obtain⟨k,hk,rfl,hf⟩:=hrel;have HF:=aa hf;clear hf;by_cases hlt:k<n
  ·obtain⟨b,off,x,rfl,gD,hx,xO⟩:=hr.atS hlt;have X_:x.length<=9223372036854775807:=hs _ (aA hx);have HD:=aa (JO hx);have hbad:(!x.isEmpty&&decide (x.length<=60)&& !(l.take k).contains x)=false->mF l rO=false:=λh=>by rw[HR.out,HF.out,HD.out,h];rfl
   have HB:=aa hbad;clear hx hbad;have hrt:=hr.tk (k:=k) dP;cases hxe:x.isEmpty with
   |true=>
    obtain rfl:x=[]:=by simpa using hxe
    go_wp2_with fail;go_ret;exact⟨dZ (HB.out rfl).symm,Below.refl _ _⟩
   |false=>
    by_cases h60:(60:Int)<(x.length:Int)
    ·go_wp2_with fail;go_ret;exact⟨dZ (HB.out (by rw[hxe,aK dP];rfl)).symm,Below.refl _ _⟩
    have adJ:decide ((60:Int)<(x.length:Int))=false:=dS;go_wp2_with fail;refine(Bx _ k _ _ x _ hrt eb).mono ?_;rintro e w1 ⟨rfl,rfl⟩;cases hct:(l.take k).contains x with
    |true=>
     go_wp2_with fail;go_ret;exact⟨dZ (HB.out (by rw[hct];simp)).symm,Below.refl _ _⟩
    |false=>
     go_wp2_with fail;go_round
     case rel=>exact⟨k+1,by omega,by go_num,by rw[HF.out,HD.out,hxe,hct,aM dP];rfl⟩
     case measure=>simp [intOf];omega
  ·obtain rfl:k=n:=dP;go_wp2_with fail;go_ret;exact⟨dZ (by rw[HR.out,HF.out,cM ji];rfl),Below.refl _ _⟩
theorem UV (l:List Str) (e:Str) (k i:Nat) (h:l[k]?=some e):decide (ix l e i<((i+k:Nat):Int))=(l.take k).contains e:=by
 induction l generalizing k i with
 |nil=>simp at h
 |cons a t ih=>
  cases k with
  |zero=>simp at h;subst h;simp [ix]
  |succ k=>
   simp at h;rw[ix,cG,List.contains_cons];by_cases hae:a=e
   ·subst hae;simp;omega
   ·rw[aH hae,show i+(k+1)=i+1+k by omega,ih k (i+1) h];have:(e==a)=false:=by simpa using λh'=>hae h'.symm
    rw[this];rfl
theorem zP (A:Option Addr) (n c:Nat) (l:List Str) (rO:Nat) (w:World) (hr:Reads encS 1 w w.heap.size A n l) (hs:∀e∈l,e.length<=maxLen) (hn:n<=c) (hc:c<=maxLen) (hm:(rO:Int)<=1000):
 Calls prog 173 #[.slice A n c,rO] w λe w'=>e= .returned (.bool (mF l rO))/\Below w.heap.size w w':=by
 unfold maxLen at hc;have HL:=aa hr.len;go_enter func173,ntmps173;go_wp2_with fail;go_loopw [5] (λi wr=>∃k:Nat,k<=n/\k<=rO+1/\i= .int .i64 k/\vE [] l=vE (l.take k) (l.drop k)/\Below w.heap.size w wr) (λi _=>n - (intOf i).toNat)
 case atStart=>exact⟨0,by omega,by omega,rfl,rfl,Below.refl _ _⟩
 case round=>
  obtain⟨k,hk,hkm,rfl,hf,hb⟩:=hrel;have HF:=aa hf;clear hf;by_cases hlt:k<n
  ·by_cases hkm2:k<=rO
   ·obtain⟨b,off,x,rfl,gD,hx,xO⟩:=(hr.below hb).atS hlt;have X_:x.length<=9223372036854775807:=hs _ (aA hx);have HD:=aa (JO hx);have mT:=UV l x k 0 hx;rw[bI]at mT;have hbad:(!x.isEmpty&&decide (x.length<=60)&& !(l.take k).contains x)=false->mF l rO=false:=λh=>by rw[mF,HF.out,HD.out,h];simp
    have HB:=aa hbad;clear hx hbad;have i1:(0:Int)<=(k:Int):=dP;have i2:(k:Int)<(n:Int):=dP;have TA:=(hr.below hb).more hb.size;cases hxe:x.isEmpty with
    |true=>
     obtain rfl:x=[]:=by simpa using hxe
     go_wp2_with fail;go_ret;exact⟨dZ (HB.out rfl).symm,hb⟩
    |false=>
     by_cases h60:(60:Int)<(x.length:Int)
     ·go_wp2_with fail;go_ret;exact⟨dZ (HB.out (by rw[hxe,aK dP];rfl)).symm,hb⟩
     have adJ:decide ((60:Int)<(x.length:Int))=false:=dS;go_wp2_with fail;refine(gG _ n _ l x _ TA eb).mono ?_;rintro e w1 ⟨rfl,rfl⟩;cases hct:(l.take k).contains x with
     |true=>
      rw[hct]at mT;go_wp2_with fail;go_ret;exact⟨dZ (HB.out (by rw[hct];simp)).symm,hb⟩
     |false=>
      rw[hct]at mT;go_wp2_with fail;go_roundw
      case rel=>exact⟨k+1,by omega,by omega,by go_num,by rw[HF.out,HD.out,hxe,hct,aM dP];rfl,hb⟩
      case measure=>simp [intOf];omega
   ·have Jy:decide ((k:Int)<=(rO:Int))=false:=dS;have It:decide ((n:Int)<=(rO:Int))=false:=dS;go_wp2_with fail;go_ret;exact⟨dZ (by rw[mF,HL.out,aK dP];rfl),hb⟩
  ·obtain rfl:k=n:=dP;have Py:mF l rO=decide (k<=rO):=by rw[mF,HF.out,cM ji,HL.out,vE,Bool.and_true]
   have HRs:=aa Py;clear Py;go_wp2_with fail;go_ret;exact⟨dZ HRs.out.symm,hb⟩
def lR (l:List Str):Bool:=l.all List.isEmpty
theorem za (A:Option Addr) (n c:Nat) (l:List Str) (w:World) (hr:Reads encS 1 w w.heap.size A n l) (hn:n<=maxLen):
 Calls prog 185 #[.slice A n c] w λe w'=>e= .returned (.bool (lR l))/\Below w.heap.size w w':=by
 unfold maxLen at hn;have HL:=aa hr.len;go_enter func185,ntmps185;go_wp2_with fail;go_loop [7] (λi=>∃k:Nat,k<=n/\i= .int .i64 k/\(l.take k).all List.isEmpty=true) (λi=>n - (intOf i).toNat)
 case atStart=>exact⟨0,by omega,rfl,by simp⟩
 case round=>
  obtain⟨k,hk,rfl,hf⟩:=hrel;have HF:=aa hf;clear hf;by_cases hlt:k<n
  ·obtain⟨b,off,x,rfl,gD,hx,xO⟩:=hr.atS hlt;have HX:=aa hx;clear hx;cases hxe:x.isEmpty with
   |true=>
    obtain rfl:x=[]:=by simpa using hxe
    go_wp2_with fail;go_round
    case rel=>exact⟨k+1,by omega,by go_num,iY HX.out HF.out rfl⟩
    case measure=>simp [intOf];omega
   |false=>
    go_wp2_with fail;go_ret;exact⟨dZ (nN HX.out hxe).symm,Below.refl _ _⟩
  ·obtain rfl:k=n:=dP;go_wp2_with fail;go_ret;exact⟨dZ (by have:=HF.out;rw[aC ji]at this;exact this.symm),Below.refl _ _⟩
def zT (l:List Str):Bool:=l.all (λs=>decide (s.length<=60))&&(l.isEmpty|| !lR l)
theorem Nz (A:Option Addr) (n c:Nat) (l:List Str) (w:World) (hr:Reads encS 1 w w.heap.size A n l) (hs:∀e∈l,e.length<=maxLen) (hn:n<=maxLen):
 Calls prog 172 #[.slice A n c] w λe w'=>e= .returned (.bool (zT l))/\Below w.heap.size w w':=by
 unfold maxLen at hn;have HL:=aa hr.len;obtain⟨p0,hp0⟩:∃p0:Bool,((n:Int)==0)=p0:=⟨_,rfl⟩;go_enter func172,ntmps172;go_wp2_with fail;have HP:=aa hp0;clear hp0;go_loop [3,4] (λv i=>∃(k:Nat) (q:Bool),k<=n/\i= .int .i64 k/\v= .bool q/\(l.take k).all (λs=>decide (s.length<=60))=true/\q=(p0|| !lR (l.take k))) (λ_ i=>n - (intOf i).toNat)
 case atStart=>exact⟨0,p0,by omega,rfl,rfl,by simp,by simp [lR]⟩
 case round=>
  obtain⟨k,q,hk,rfl,rfl,hf,hq⟩:=hrel;have HF:=aa hf;have HQ:=aa hq;clear hf hq;by_cases hlt:k<n
  ·obtain⟨b,off,x,rfl,gD,hx,xO⟩:=hr.atS hlt;have X_:x.length<=9223372036854775807:=hs _ (aA hx);have HX:=aa hx;have HT:=aa (eJ hx);clear hx;have i1:(0:Int)<=(k:Int):=dP;have i2:(k:Int)<(n:Int):=dP;by_cases h60:(60:Int)<(x.length:Int)
   ·go_wp2_with fail;go_ret;exact⟨dZ (by rw[zT,nN HX.out (aK dP)];rfl),Below.refl _ _⟩
   have adJ:decide ((60:Int)<(x.length:Int))=false:=dS;have jb:=iY HX.out HF.out (aM (show x.length<=60 by omega));have HA:=aa jb;clear jb;have hq2:(q|| !x.isEmpty)=(p0|| !lR (l.take (k+1))):=by rw[HQ.out,HT.out];unfold lR;rw[List.all_append];cases p0<;>cases (l.take k).all List.isEmpty<;>simp
   have HQ2:=aa hq2;clear hq2;cases q with
   |true=>
    go_wp2_with fail;go_round
    case rel=>exact⟨k+1,true,by omega,by go_num,rfl,HA.out,HQ2.out⟩
    case measure=>simp [intOf];omega
   |false=>
    cases hxe:x.isEmpty with
    |true=>
     rw[hxe]at HQ2;obtain rfl:x=[]:=by simpa using hxe
     go_wp2_with fail;go_round
     case rel=>exact⟨k+1,false,by omega,by go_num,rfl,HA.out,HQ2.out⟩
     case measure=>simp [intOf];omega
    |false=>
     rw[hxe]at HQ2;go_wp2_with fail;go_round
     case rel=>exact⟨k+1,true,by omega,by go_num,rfl,HA.out,HQ2.out⟩
     case measure=>simp [intOf];omega
  ·obtain rfl:k=n:=dP;have Py:zT l=q:=by have h1:=HF.out;have h2:=HQ.out;rw[aC ji]at h1 h2;rw[zT,h1,h2,<-HP.out,aj];congr 1;rw[<-HL.out,bg];simp
   have HRs:=aa Py;clear Py;go_wp2_with fail;go_ret;exact⟨dZ HRs.out.symm,Below.refl _ _⟩
def mQ:Nat->Vec->Nat
 |0,_=>1
 |r+1,v=>v.parts.foldl (λo p=>max o (1+mQ r p)) 0
theorem KZ {α:Type} (f:α->Nat) (l:List α) (o M:Nat) (h:∀x∈l,f x<=M) (ho:o<=M):l.foldl (λo p=>max o (f p)) o<=M:=by
 induction l generalizing o with
 |nil=>exact ho
 |cons a t ih=>
  rw[bC];exact ih _ (λx hx=>h x (aP _ hx)) (by have:=h a aT;omega)
theorem Vm (r:Nat) (v:Vec):mQ r v<=r+1:=by
 induction r generalizing v with
 |zero=>simp [mQ]
 |succ r ih=>rw[mQ];exact KZ (λp=>1+mQ r p) _ _ _ (λx _=>by have:=ih x;omega) dP
theorem Pk {β:Type} (f:β->α->β) (o:β) {l:List α} {x:α} (h:l[k]?=some x):(l.take (k+1)).foldl f o=f ((l.take k).foldl f o) x:=by rw[eJ h,List.foldl_append];rfl
theorem Vn (r:Nat) (hr:r<=100):∀(v:Vec) (cs:List Value) (w:World),rep w w.heap.size v.toD cs->
 Calls prog 131 #[av cs,r] w λe w'=>e= .returned (.int .i64 (mQ r v))/\Below w.heap.size w w':=by
 induction r with
 |zero=>
  intro v cs w h;obtain⟨Ai,ni,ci,Ap,np,cp,An,nn,cn,Ac,nc,cc,Al,nl,cl,rfl,hv⟩:=iy h;go_enter func131,ntmps131;go_wp2_with fail;go_ret;exact⟨rfl,(Below.refl _ _).alloc (af _) _⟩
 |succ r ih=>
  intro v cs w h;have ih:=ih dP;obtain⟨Ai,ni,ci,Ap,np,cp,An,nn,cn,Ac,nc,cc,Al,nl,cl,rfl,hv⟩:=iy h;have q0:=(Below.refl w.heap.size w).alloc (af _) (.cells (vc v Ai ni ci Ap np cp An nn cn Ac nc cc Al nl cl).toArray 38);have mD:=hv.pab;unfold maxLen at mD;have Mn:=aa mD.2.2;have OA:np<=9223372036854775807:=dP;have xo:=aa ih;clear ih mD;have jC:((r:Int)+1==0)=false:=dS;rw[show (((r+1:Nat)):Int)=(r:Int)+1 from rfl];go_enter func131,ntmps131;go_wp2_with fail;go_loopw [5,13] (λu i wr=>∃k m:Nat,k<=np/\i= .int .i64 k/\u= .int .i64 m/\m=(v.parts.take k).foldl (λo p=>max o (1+mQ r p)) 0/\m<=102/\Below w.heap.size w wr) (λ_ i _=>np - (intOf i).toNat)
  case atStart=>exact⟨0,0,by omega,rfl,rfl,rfl,by omega,q0⟩
  case round=>
   obtain⟨k,m,hk,rfl,rfl,hm,DK,hb⟩:=hrel;have HM:=aa hm;clear hm;by_cases hlt:k<np
   ·obtain⟨b,off,x,Ru,SN,RP,Rx,SP,RS,Ct,CE,Hw,L4,JS,L7,Rv,SO,Mz,rfl,gD,hx,fE,hvx,c0,c1,c2,c3,c4,c5,c6,c7⟩:=rz (fF hv.pa hb) hlt;have HX:=aa (Pk (λo p=>max o (1+mQ r p)) 0 hx);have hnl:=Vm r x;clear hx;have q1:=hb.alloc hb.size (.cells (vc x Ru SN RP Rx SP RS Ct CE Hw L4 JS L7 Rv SO Mz).toArray 38);go_wp2_with fail;refine(xo.out x _ _ (fb fE (Below.alloc (Below.refl _ _) hb.size _) sx)).mono ?_;rintro e w1 ⟨rfl,hb1⟩;go_wp2_with fail;all_goals
     go_roundw
     case rel=>exact⟨k+1,(v.parts.take (k+1)).foldl (λo p=>max o (1+mQ r p)) (0:Nat),by omega,by go_num,by rw[HX.out,<-HM.out];congr 1;omega,rfl,by rw[HX.out,<-HM.out];omega,ij q1 hb1⟩
     case measure=>simp [intOf];omega
   ·obtain rfl:k=np:=dP;go_wp2_with fail;go_ret;exact⟨eZ (by rw[mQ,HM.out,aC lk]),hb⟩
mutual
def jF:Vec->Nat
 |⟨k,i,p,n,c,l,cd,e⟩=>lenV ⟨k,i,p,n,c,l,cd,e⟩+ik p
def ik:List Vec->Nat
 |[]=>0
 |v::t=>jF v+ik t
end
theorem jU (v:Vec):jF v=lenV v+ik v.parts:=by cases v;rw[jF]
theorem Do (l l':List Vec):ik (l++l')=ik l+ik l':=by
 induction l with
 |nil=>simp [ik]
 |cons a t ih=>simp only[cK,ik,ih];omega
theorem Bs {l:List Vec} (h:l[k]?=some x):ik (l.take (k+1))=ik (l.take k)+jF x:=by rw[eJ h,Do];simp [ik]
theorem Jj (l:List Vec) (k:Nat):ik (l.take k)<=ik l:=by
 have h:l=l.take k++l.drop k:=by rw[cA]
 conv=>rhs;rw[h]
 rw[Do];omega
mutual
def xN:Vec->Bool
 |⟨k,_,p,_,_,_,_,_⟩=>(k==5)||Jv p
def Jv:List Vec->Bool
 |[]=>false
 |v::t=>xN v||Jv t
end
theorem QN (v:Vec):xN v=((v.kind==5)||Jv v.parts):=by cases v;rw[xN]
theorem Jw (l:List Vec):Jv l=l.any xN:=by
 induction l with
 |nil=>rw[Jv];rfl
 |cons a t ih=>rw[Jv,ih];rfl
theorem Mt {p:α->Bool} {l:List α} {x:α} (h:l[k]?=some x) (ha:(l.take k).any p=false) (hb:p x=false):(l.take (k+1)).any p=false:=by rw[eJ h,List.any_append,ha];simp [hb]
theorem Qy {p:α->Bool} {l:List α} {x:α} (h:l[k]?=some x) (hb:p x=true):l.any p=true:=List.any_eq_true.2 ⟨x,aA h,hb⟩
theorem RL (l:List Vec) (h:∀x∈l,jF x<=2*szD x.toD+1):ik l<=2*gv (l.map Vec.toD)+l.length:=by
 induction l with
 |nil=>simp [ik]
 |cons a t ih=>
  have h1:=ih (λx hx=>h x (aP _ hx));have h2:=h a aT;simp only[ik,br,gv,bU];omega
theorem vsz (v:Vec):v.items.length+v.parts.length+gv (v.parts.map Vec.toD)<=szD v.toD:=by rw[go,szD,szD,au,au];omega
theorem RM:∀v:Vec,jF v<=2*szD v.toD+1:=iH λv ih=>by have h1:=RL v.parts ih;have h2:=wV v;have h3:=vsz v;rw[jU];omega
theorem V8 (h:x∈v.parts):szD x.toD<=szD v.toD:=by have h1:=rC (dt (f:=Vec.toD) h);have h2:=vsz v;omega
def bigV (v:Vec):Prop:=(szD v.toD:Int)<=1000000000000000
theorem bigV.part (h:bigV v) (hx:x∈v.parts):bigV x:=by unfold bigV at h ⊢;have:=V8 hx;omega
theorem bigV.len (h:bigV v):((v.items.length+v.parts.length:Nat):Int)<=1000000000000000:=by unfold bigV at h;have:=vsz v;omega
theorem bigV.cells (h:bigV v):(jF v:Int)<=3000000000000000:=by unfold bigV at h;have:=RM v;omega
theorem RN:∀(v:Vec) (cs:List Value) (w:World),rep w w.heap.size v.toD cs->bigV v->
 Calls prog 133 #[av cs] w λe w'=>e= .returned (.int .i64 (jF v))/\Below w.heap.size w w':=iH λv ih=>by
 intro cs w h ga;have MX:=ga.len;have hbc:=ga.cells;rw[jU]at hbc;obtain⟨Ai,ni,ci,Ap,np,cp,An,nn,cn,Ac,nc,cc,Al,nl,cl,rfl,hv⟩:=iy h;have q0:=(Below.refl w.heap.size w).alloc (af _) (.cells (vc v Ai ni ci Ap np cp An nn cn Ac nc cc Al nl cl).toArray 38);have mD:=hv.pab;unfold maxLen at mD;have Mn:=aa mD.2.2;have OA:np<=9223372036854775807:=dP;have xo:=aa ih;clear ih mD;go_enter func133,ntmps133;go_wp2_with fail;refine(pC v _ _ (fM h q0) dP).mono ?_;rintro e w1 ⟨rfl,hb1⟩;obtain⟨hc1,_⟩:=fY hb1;simp only[dT]at hc1;have q1:=ij q0 hb1;go_wp2_with fail;have XE:Below (w.alloc (.cells (vc v Ai ni ci Ap np cp An nn cn Ac nc cc Al nl cl).toArray 38)).heap.size (w.alloc (.cells (vc v Ai ni ci Ap np cp An nn cn Ac nc cc Al nl cl).toArray 38)) w1:=hb1;go_loopw [3,11] (λu i wr=>∃k:Nat,k<=np/\i= .int .i64 k/\u= .int .i64 ((lenV v+ik (v.parts.take k):Nat):Int)/\Below w.heap.size w wr) (λ_ i _=>np - (intOf i).toNat)
 case atStart=>exact⟨0,by omega,rfl,by simp [ik],q1⟩
 case round=>
  obtain⟨k,hk,rfl,rfl,hb⟩:=hrel;by_cases hlt:k<np
  ·obtain⟨b,off,x,Ru,SN,RP,Rx,SP,RS,Ct,CE,Hw,L4,JS,L7,Rv,SO,Mz,rfl,gD,hx,fE,hvx,c0,c1,c2,c3,c4,c5,c6,c7⟩:=rz (fF hv.pa hb) hlt;have HX:=aa (Bs hx);have HM:=aa (aA hx);have E3:=Jj v.parts (k+1);rw[HX.out]at E3;clear hx;obtain⟨m,hm⟩:∃m:Nat,m=lenV v+ik (v.parts.take k):=⟨_,rfl⟩;have DK:(m+jF x:Int)<=3000000000000000:=dP;rw[<-hm];have HMM:=aa hm;clear hm E3;have q2:=hb.alloc hb.size (.cells (vc x Ru SN RP Rx SP RS Ct CE Hw L4 JS L7 Rv SO Mz).toArray 38);go_wp2_with fail;refine(xo.out x HM.out _ _ (fb fE (Below.alloc (Below.refl _ _) hb.size _) sx) (ga.part HM.out)).mono ?_;rintro e w2 ⟨rfl,jS⟩;go_wp2_with fail;go_roundw
   case rel=>exact⟨k+1,by omega,by go_num,by rw[HX.out,HMM.out];congr 1;omega,ij q2 jS⟩
   case measure=>simp [intOf];omega
  ·obtain rfl:k=np:=dP;go_wp2_with fail;go_ret;exact⟨eZ (by rw[jU,aC lk]),hb⟩
theorem Nx:∀(v:Vec) (cs:List Value) (w:World),rep w w.heap.size v.toD cs->bigV v->
 Calls prog 135 #[av cs] w λe w'=>e= .returned (.int .i64 (jF v))/\Below w.heap.size w w':=iH λv ih=>by
 intro cs w h ga;have MX:=ga.len;have hbc:=ga.cells;rw[jU]at hbc;obtain⟨Ai,ni,ci,Ap,np,cp,An,nn,cn,Ac,nc,cc,Al,nl,cl,rfl,hv⟩:=iy h;have q0:=(Below.refl w.heap.size w).alloc (af _) (.cells (vc v Ai ni ci Ap np cp An nn cn Ac nc cc Al nl cl).toArray 38);have mD:=hv.pab;unfold maxLen at mD;have Mn:=aa mD.2.2;have OA:np<=9223372036854775807:=dP;have xo:=aa ih;clear ih mD;go_enter func135,ntmps135;go_wp2_with fail;refine(lI v _ _ (fM h q0) dP).mono ?_;rintro e w1 ⟨rfl,hb1⟩;obtain⟨hc1,_⟩:=fY hb1;simp only[dT]at hc1;have q1:=ij q0 hb1;go_wp2_with fail;have L_:=Blk.new_ w 38 (vc v Ai ni ci Ap np cp An nn cn Ac nc cc Al nl cl).toArray;go_loopw [3,4] (λu i wr=>∃k:Nat,k<=np/\i= .int .i64 k/\u= .int .i64 ((lenV v+ik (v.parts.take k):Nat):Int)/\Below (w.alloc (.cells (vc v Ai ni ci Ap np cp An nn cn Ac nc cc Al nl cl).toArray 38)).heap.size (w.alloc (.cells (vc v Ai ni ci Ap np cp An nn cn Ac nc cc Al nl cl).toArray 38)) wr) (λ_ i _=>np - (intOf i).toNat)
 case atStart=>exact⟨0,by omega,rfl,by simp [ik],hb1⟩
 case round=>
  obtain⟨k,hk,rfl,rfl,Ww⟩:=hrel;have hb:=ij q0 Ww;have Pw:wr.cell? ⟨w.heap.size,2,none⟩=some (.slice Ap np cp):=(L_.below Ww L_.lt).cell 2;by_cases hlt:k<np
  ·obtain⟨b,off,x,Ru,SN,RP,Rx,SP,RS,Ct,CE,Hw,L4,JS,L7,Rv,SO,Mz,rfl,gD,hx,fE,hvx,c0,c1,c2,c3,c4,c5,c6,c7⟩:=rz (fF hv.pa hb) hlt;have HX:=aa (Bs hx);have HM:=aa (aA hx);have E3:=Jj v.parts (k+1);rw[HX.out]at E3;clear hx;obtain⟨m,hm⟩:∃m:Nat,m=lenV v+ik (v.parts.take k):=⟨_,rfl⟩;have DK:(m+jF x:Int)<=3000000000000000:=dP;rw[<-hm];have HMM:=aa hm;clear hm E3;go_wp2_with fail;refine(xo.out x HM.out _ _ (gY fE hb.size) (ga.part HM.out)).mono ?_;rintro e w2 ⟨rfl,jS⟩;go_wp2_with fail;go_roundw
   case rel=>exact⟨k+1,by omega,by go_num,by rw[HX.out,HMM.out];congr 1;omega,ij Ww jS⟩
   case measure=>simp [intOf];omega
  ·obtain rfl:k=np:=dP;go_wp2_with fail;go_ret;exact⟨eZ (by rw[jU,aC lk];omega),hb⟩
theorem Cg:∀(v:Vec) (cs:List Value) (w:World),rep w w.heap.size v.toD cs->
 Calls prog 98 #[av cs] w λe w'=>e= .returned (.bool (xN v))/\Below w.heap.size w w':=iH λv ih=>by
 intro cs w h;have hHF:=QN v;rw[Jw]at hHF;have Wr:=aa hHF;clear hHF;obtain⟨Ai,ni,ci,Ap,np,cp,An,nn,cn,Ac,nc,cc,Al,nl,cl,rfl,hv⟩:=iy h;have q0:=(Below.refl w.heap.size w).alloc (af _) (.cells (vc v Ai ni ci Ap np cp An nn cn Ac nc cc Al nl cl).toArray 38);have mD:=hv.pab;unfold maxLen at mD;have Mn:=aa mD.2.2;have OA:np<=9223372036854775807:=dP;have xo:=aa ih;clear ih mD;cases hk5:(v.kind==5) with
 |true=>
  go_enter func98,ntmps98;go_wp2_with fail;go_ret;exact⟨dZ (by rw[Wr.out,hk5];rfl),q0⟩
 |false=>
 go_enter func98,ntmps98;go_wp2_with fail;go_loopw [11] (λi wr=>∃k:Nat,k<=np/\i= .int .i64 k/\(v.parts.take k).any xN=false/\Below w.heap.size w wr) (λi _=>np - (intOf i).toNat)
 case atStart=>exact⟨0,by omega,rfl,rfl,q0⟩
 case round=>
  obtain⟨k,hk,rfl,hf,hb⟩:=hrel;have HF:=aa hf;clear hf;by_cases hlt:k<np
  ·obtain⟨b,off,x,Ru,SN,RP,Rx,SP,RS,Ct,CE,Hw,L4,JS,L7,Rv,SO,Mz,rfl,gD,hx,fE,hvx,c0,c1,c2,c3,c4,c5,c6,c7⟩:=rz (fF hv.pa hb) hlt;have HX:=aa hx;have HM:=aa (aA hx);clear hx;have q2:=hb.alloc hb.size (.cells (vc x Ru SN RP Rx SP RS Ct CE Hw L4 JS L7 Rv SO Mz).toArray 38);go_wp2_with fail;refine(xo.out x HM.out _ _ (fb fE (Below.alloc (Below.refl _ _) hb.size _) sx)).mono ?_;rintro e w2 ⟨rfl,jS⟩;cases hq:xN x with
   |true=>
    go_wp2_with fail;go_ret;exact⟨dZ (by rw[Wr.out,Qy HX.out hq];simp),ij q2 jS⟩
   |false=>
    go_wp2_with fail;go_roundw
    case rel=>exact⟨k+1,by omega,by go_num,Mt HX.out HF.out hq,ij q2 jS⟩
    case measure=>simp [intOf];omega
  ·obtain rfl:k=np:=dP;go_wp2_with fail;go_ret;exact⟨dZ (by have:=HF.out;rw[aC lk]at this;rw[Wr.out,this,hk5];rfl),hb⟩
theorem xT:∀(v:Vec) (cs:List Value) (w:World),rep w w.heap.size v.toD cs->
 Calls prog 114 #[av cs] w λe w'=>e= .returned (.bool (xN v))/\Below w.heap.size w w':=iH λv ih=>by
 intro cs w h;have hHF:=QN v;rw[Jw]at hHF;have Wr:=aa hHF;clear hHF;obtain⟨Ai,ni,ci,Ap,np,cp,An,nn,cn,Ac,nc,cc,Al,nl,cl,rfl,hv⟩:=iy h;have q0:=(Below.refl w.heap.size w).alloc (af _) (.cells (vc v Ai ni ci Ap np cp An nn cn Ac nc cc Al nl cl).toArray 38);have L_:=Blk.new_ w 38 (vc v Ai ni ci Ap np cp An nn cn Ac nc cc Al nl cl).toArray;have mD:=hv.pab;unfold maxLen at mD;have Mn:=aa mD.2.2;have OA:np<=9223372036854775807:=dP;have xo:=aa ih;clear ih mD;go_enter func114,ntmps114;go_wp2_with fail;go_loopw [3] (λi wr=>∃k:Nat,k<=np/\i= .int .i64 k/\(v.parts.take k).any xN=false/\Below (w.alloc (.cells (vc v Ai ni ci Ap np cp An nn cn Ac nc cc Al nl cl).toArray 38)).heap.size (w.alloc (.cells (vc v Ai ni ci Ap np cp An nn cn Ac nc cc Al nl cl).toArray 38)) wr) (λi _=>np - (intOf i).toNat)
 case atStart=>exact⟨0,by omega,rfl,rfl,Below.refl _ _⟩
 case round=>
  obtain⟨k,hk,rfl,hf,Ww⟩:=hrel;have HF:=aa hf;clear hf;have hb:=ij q0 Ww;have Pw:wr.cell? ⟨w.heap.size,2,none⟩=some (.slice Ap np cp):=(L_.below Ww L_.lt).cell 2;have Ma:wr.cell? ⟨w.heap.size,0,none⟩=some (.int .i64 v.kind):=(L_.below Ww L_.lt).cell 0;by_cases hlt:k<np
  ·obtain⟨b,off,x,Ru,SN,RP,Rx,SP,RS,Ct,CE,Hw,L4,JS,L7,Rv,SO,Mz,rfl,gD,hx,fE,hvx,c0,c1,c2,c3,c4,c5,c6,c7⟩:=rz (fF hv.pa hb) hlt;have HX:=aa hx;have HM:=aa (aA hx);clear hx;go_wp2_with fail;refine(xo.out x HM.out _ _ (gY fE hb.size)).mono ?_;rintro e w2 ⟨rfl,jS⟩;cases hq:xN x with
   |true=>
    go_wp2_with fail;go_ret;exact⟨dZ (by rw[Wr.out,Qy HX.out hq];simp),ij hb jS⟩
   |false=>
    go_wp2_with fail;go_roundw
    case rel=>exact⟨k+1,by omega,by go_num,Mt HX.out HF.out hq,ij Ww jS⟩
    case measure=>simp [intOf];omega
  ·obtain rfl:k=np:=dP;go_wp2_with fail;go_ret;exact⟨dZ (by have:=HF.out;rw[aC lk]at this;rw[Wr.out,this,Bool.or_false]),hb⟩
def IZ (kind code env:Int) (ni np nn nc nl:Nat):Prop:=
 (0<nl->kind=2)/\(0<np->kind=4)/\(kind≠5->code=0/\env=0)/\(kind=5->ni=0/\nn=0/\ -999<=code/\code<=99999/\0<=env/\env<=99999)/\(kind=0->ni=0/\nc=0)
instance (kind code env:Int) (ni np nn nc nl:Nat):Decidable (IZ kind code env ni np nn nc nl):=by unfold IZ;infer_instance
def SB (v:Vec) (x:Item):Bool:=itemOK v.kind x&&(decide (v.levels.length=0)||eI x||decide (x.den=1/\1<=x.num/\x.num<=v.levels.length))
def wZ (v:Vec) (x:Item):Bool:=atomK v.kind&&SB v x
def CO (v:Vec):Bool:=decide (0<=v.kind/\v.kind<=5/\lenV v<=40)&&mF v.cls 3&&mF v.levels 20
def IY (v:Vec):Bool:=(decide (v.names.length=0)||(decide (v.names.length=lenV v)&& !lR v.names))&&v.names.all (λs=>decide (s.length<=60))
def P6 (v:Vec):Bool:=decide (IZ v.kind v.code v.env v.items.length v.parts.length v.names.length v.cls.length v.levels.length)
def h_ (v:Vec):Bool:=CO v&&IY v&&P6 v&&v.items.all (wZ v)
theorem aim (h:CO v=false\/IY v=false\/P6 v=false\/v.items.all (wZ v)=false):h_ v=false:=by unfold h_;rcases h with h|h|h|h<;>rw[h]<;>simp
mutual
def mJ:Vec->Bool
 |⟨k,i,p,n,c,l,cd,e⟩=>h_ ⟨k,i,p,n,c,l,cd,e⟩&&vK p
def vK:List Vec->Bool
 |[]=>true
 |v::t=>mJ v&&vK t
end
theorem xW (v:Vec):mJ v=(h_ v&&v.parts.all mJ):=by
 have h:∀l,vK l=l.all mJ:=by
  intro l
  induction l with
  |nil=>rw[vK];rfl
  |cons a t ih=>rw[vK,ih];rfl
 cases v;rw[mJ,h]
def okD:Nat->Vec->Bool
 |0,v=>h_ v&&v.parts.isEmpty
 |d+1,v=>h_ v&&v.parts.all (okD d)
theorem xu {α:Type} (f:α->Nat) (l:List α) (o M:Nat):l.foldl (λo p=>max o (f p)) o<=M↔o<=M/\∀x∈l,f x<=M:=by
 induction l generalizing o with
 |nil=>simp
 |cons a t ih=>
  rw[bC,ih];simp only[aX,forall_eq_or_imp];constructor
  ·rintro⟨h1,h2⟩;exact⟨by omega,by omega,h2⟩
  ·rintro⟨h1,h2,h3⟩;exact⟨by omega,h3⟩
theorem abX (d:Nat) (v:Vec):okD d v=(decide (mQ (d+1) v<=d)&&mJ v):=by
 induction d generalizing v with
 |zero=>
  rw[okD,xW,mQ];cases hp:v.parts with
  |nil=>simp
  |cons a t=>
   have:¬(a::t).foldl (λo p=>max o (1+mQ 0 p)) 0<=0:=by rw[xu (λp=>1+mQ 0 p)];intro h;have:=h.2 a aT;omega
   rw[aK this];simp
 |succ d ih=>
  rw[okD,xW,mQ];have h1:v.parts.all (okD d)=(decide (v.parts.foldl (λo p=>max o (1+mQ (d+1) p)) 0<=d+1)&&v.parts.all mJ):=by
   rw[bg,aV,ax,decide_eq_true_iff,xu (λp=>1+mQ (d+1) p),aV];constructor
   ·intro h;refine⟨⟨by omega,λx hx=>?_⟩,λx hx=>?_⟩
    ·have:=h x hx;rw[ih,ax,decide_eq_true_iff]at this;omega
    ·have:=h x hx;rw[ih,ax]at this;exact this.2
   ·rintro⟨⟨_,h2⟩,h3⟩ x hx;rw[ih,ax,decide_eq_true_iff];exact⟨by have:=h2 x hx;omega,h3 x hx⟩
  rw[h1];cases h_ v<;>cases (decide (v.parts.foldl (λo p=>max o (1+mQ (d+1) p)) 0<=d+1))<;>simp
def isVec (v:Vec):Bool:=okD 3 v&&decide (jF v<=200)
theorem ab8 (v:Vec):IY v=((decide (v.names.length=0)||decide (v.names.length=lenV v))&&zT v.names):=by
 unfold IY zT;cases hn:v.names with
 |nil=>simp
 |cons a t=>
  have h0:decide ((a::t).length=0)=false:=dR;rw[h0];cases decide ((a::t).length=lenV v)<;>cases lR (a::t)<;>cases (a::t).all (λs=>decide (s.length<=60))<;>rfl
def PR (d:Nat) (v:Vec):Bool:=match d with
 |0=>v.parts.isEmpty
 |d+1=>v.parts.all (okD d)
theorem s8 (d:Nat) (v:Vec):okD d v=(CO v&&IY v&&P6 v&&v.items.all (wZ v)&&PR d v):=by cases d<;>rw[okD,h_]<;>rfl
theorem aaP {kind:Int} {x:Item} (h:itemOK kind x=true):eI x=decide (x.den=0):=by
 cases hm:eI x with
 |true=>
  obtain rfl:x=⟨0,0,[]⟩:=by simpa [eI]using hm
  rfl
 |false=>
  rw[itemOK,hm,aq]at h;rw[eq_comm,bB];split at h
  ·simp at h;omega
  ·split at h
   ·simp [nZ]at h;omega
   ·split at h
    ·simp at h;omega
    ·cases h
theorem aih {d:Nat} (h:CO v=false\/IY v=false\/P6 v=false\/v.items.all (wZ v)=false\/PR d v=false):okD d v=false:=by rw[s8];rcases h with h|h|h|h|h<;>rw[h]<;>simp
end Go.Proofs.YtekcpadlmfaihaaGreat
