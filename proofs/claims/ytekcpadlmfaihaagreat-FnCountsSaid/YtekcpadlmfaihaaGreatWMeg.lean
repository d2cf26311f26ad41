/- Elements of owned slices in the one assertion for memory. -/
import Derived.Test.YtekcpadlmfaihaaGreatWHe
import Derived.Test.YtekcpadlmfaihaaGreatWDtHeapOp
import Derived.Test.YtekcpadlmfaihaaGreatWVg
import Derived.Test.YtekcpadlmfaihaaGreatWDtCell
import Derived.Test.YtekcpadlmfaihaaGreatWDtItem
import Derived.Test.YtekcpadlmfaihaaGreatWCp
import Derived.Test.YtekcpadlmfaihaaGreatWFb
namespace Go.Proofs.YtekcpadlmfaihaaGreat
open Go.RowKit Proofs.Tryz
set_option maxHeartbeats 8000000
set_option maxRecDepth 100000
set_option linter.unusedSimpArgs false
set_option linter.unusedVariables false
variable {h:Hp} {y:Int} {Q:Item->Prop} {L R:List As} {F X:List Nat} {l:List Str} {cs cs' post pre r:List Value} {cc g m n nn:Nat} {P:Program} {p:Str} {α:Type} {t t':TypeId} {a a' b b' c c' d d' e e' f f' h' i i' j k:Value} {w w0:World}
def xB (w:World) (g:Nat):Nat->List Value->World
 |_,[]=>w
 |o,v::t=>xB (w.setCell ⟨g,o,none⟩ v) g (o+1) t
theorem J0:∀{w:World} {g o:Nat} {cs:List Value},Mod [g] w (xB w g o cs)
 |_,_,_,[]=>Mod.refl
 |w,g,o,v::t=>by rw[xB];exact(JR (F:=[g]) (p:=⟨g,o,none⟩) dR v).trans J0 (λx hx=> .inl hx)
theorem JZ:∀{cs' cs pre post:List Value} {w:World} {g:Nat} {t:TypeId},Blk w g t (pre++(cs++post))->cs'.length=cs.length->Blk (xB w g pre.length cs') g t (pre++(cs'++post))
 |[],cs,pre,post,w,g,t,h,hl=>by obtain rfl:cs=[]:=aR.1 (by simpa using hl.symm);exact h
 |v::r,[],pre,post,w,g,t,h,hl=>by simp at hl
 |v::r,c::ct,pre,post,w,g,t,h,hl=>by rw[xB];have h1:=h.set_ pre.length v;rw[dI _ _ (af _),Nat.sub_self,cK,a_]at h1;have h2:Blk (w.setCell ⟨g,pre.length,none⟩ v) g t ((pre++[v])++(ct++post)):=mt;have h3:=JZ (cs':=r) h2 (by simpa using hl);rw[aY]at h3;simpa using h3
section
variable {P:Program} {w0 w:World} {X:List Nat} {R:List As} {xs:List D} {t e:TypeId} {A:Option Addr} {n c k:Nat} {d d':D} {cs':List Value}
theorem Mem.setEl (M:Mem P w0 X w (.ow (.sl xs) t [.slice A n c]:: .ow d' e cs'::R)) (ht:P.underlying t=some (.slice e)) (hk:xs[k]?=some d) (hl:∀F cs,own P w d e F cs->cs'.length=cs.length):
 ∃g,A=some ⟨g,0,none⟩/\(∀j,j<cs'.length->∃u,w.cell? ⟨g,k*cs'.length+j,none⟩=some u)/\(∀j,w.frozen? ⟨g,j,none⟩=false)/\g<w.heap.size/\Mem P w0 X (xB w g (k*cs'.length) cs') (.ow (.sl (xs.set k d')) t [.slice (some ⟨g,0,none⟩) n c]::R):=by
 obtain⟨F,h1,h2,h3⟩:=Mem.split [_,_] M;obtain⟨F1,F2,rfl,h4,h5⟩:=fJ.1 h1;have h5:=iQ.1 h5;obtain⟨g,Fa,Fd,Fb,cs,pre,post,rfl,rfl,o1,o2,o3,o4⟩:=ta ht h4 hk;have gK:=hl _ _ o1;rw[<-gK]at o2;have hn:=aE.1 h2;have hg2:g ∉ F2:=λhh=>hn.2.2 g dR g hh rfl;have hg:=aQ.1 hn.1;refine⟨g,rfl,λj hj=>?_,λj=>o3.frozen j,o3.lt,?_⟩
 ·have:(pre++(cs++post))[k*cs'.length+j]?=some ((cs[j]?).getD undef):=by rw[cV dP,cY dP];have:k*cs'.length+j - pre.length=j:=dP;rw[this];have XM:j<cs.length:=dP;simp [XM]
  exact⟨_,(o3.cell _).trans this⟩
 ·have hb:=JZ (cs':=cs') o3 gK;rw[o2]at hb;have Pu:Mod [g] w (xB w g (k*cs'.length) cs'):=J0;have UI:∀x,x∈Fa++Fb->(xB w g (k*cs'.length) cs').heap[x]?=w.heap[x]?:=λx hx=>Pu.2.2 x (jT _ _ _ _ h4 x wt) (by simp only[ed];rintro rfl;exact hg.1 wt)
  have h6:own P (xB w g (k*cs'.length) cs') d' e F2 cs':=nJ _ _ _ _ (λx hx=>Pu.2.2 x (jT _ _ _ _ h5 x hx) (by simp only[ed];rintro rfl;exact hg2 hx)) h5;have h7:=o4 _ d' cs' F2 dP h6 hb UI;refine h3 _ [_] _ (iQ.2 h7) ?_ ?_ (Pu.mono dR)
  ·have q1:=hg.1;have q2:=hg.2;simp only[aG,not_or]at q1;have q3:=aE.1 q2;have q4:=aE.1 q3.2.1;refine aQ.2 ⟨by simp only[aG,not_or];exact⟨q1.1,hg2,q1.2.2⟩,?_⟩;refine aE.2 ⟨q3.1,aE.2 ⟨hn.2.1,q4.2.1,?_⟩,?_⟩
   ·intro a ha b Tv e';subst e';exact hn.2.2 a (by simp [Tv]) a ha rfl
   ·intro a ha b Tv e';subst e';rcases aG.1 Tv with Tv|Tv
    ·exact hn.2.2 a (by simp [ha]) a Tv rfl
    ·exact q3.2.2 a ha a (by simp [Tv]) rfl
  ·intro x hx;left;simp only[aX,aG]at hx ⊢;rcases hx with rfl|hx|hx|hx<;>simp_all
theorem Mem.some0 (M:Mem P w0 X w (.ow (.sl xs) t [.slice A n c]::R)) (ht:P.underlying t=some (.slice e)) (hn:0<n):∃g,A=some ⟨g,0,none⟩:=by obtain⟨F,h1,h2,h3⟩:=Mem.split [_] M;have h4:=iQ.1 h1;have hl:=(ef (eW _ _ _ _ h4)).1;obtain⟨g,Fa,Fd,Fb,cs,pre,post,h5,_⟩:=ta (k:=0) (d:=xs[0]' dP) ht h4 (aw dP);exact⟨g,h5⟩
end
section
variable {w0 w:World} {X:List Nat} {R:List As} {A:Option Addr} {n c k:Nat} {l:List Item} {x y:Item}
theorem Mem.setItem (M:Mem prog w0 X w (.ow (.sl (l.map Item.toD)) 35 [.slice A n c]::R)) (hk:l[k]?=some x) (hy:itOK y):
 ∃g,A=some ⟨g,0,none⟩/\(∃u,w.cell? ⟨g,k*3,none⟩=some u)/\(∃u,w.cell? ⟨g,k*3+1,none⟩=some u)/\(∃u,w.cell? ⟨g,k*3+2,none⟩=some u)/\(∀j,w.frozen? ⟨g,j,none⟩=false)/\g<w.heap.size/\
  Mem prog w0 X (((w.setCell ⟨g,k*3,none⟩ (.int .i64 y.num)).setCell ⟨g,k*3+1,none⟩ (.int .i64 y.den)).setCell ⟨g,k*3+2,none⟩ (sv y.text)) (.ow (.sl ((l.set k y).map Item.toD)) 35 [.slice (some ⟨g,0,none⟩) n c]::R):=by
 obtain⟨g,h1,h2,h3,h4,h5⟩:=Mem.setEl (k:=k) (d:=x.toD) (d':=y.toD) (cs':=[.int .i64 y.num,.int .i64 y.den,sv y.text]) ((M.item hy).pull 1 rfl) underlying35 sC (λF cs h=>by obtain⟨_,rfl,_⟩:=yZ h;rfl);refine⟨g,h1,h2 0 dR,h2 1 dR,h2 2 dR,h3,h4,?_⟩;rw[<-dH]at h5;exact h5
theorem Mem.setStr {l:List Str} {x y:Str} (M:Mem prog w0 X w (.ow (.sl (l.map .s)) 25 [.slice A n c]::R)) (hk:l[k]?=some x) (hy:y.length<=maxLen):
 ∃g,A=some ⟨g,0,none⟩/\(∃u,w.cell? ⟨g,k,none⟩=some u)/\(∀j,w.frozen? ⟨g,j,none⟩=false)/\g<w.heap.size/\
  Mem prog w0 X (w.setCell ⟨g,k,none⟩ (sv y)) (.ow (.sl ((l.set k y).map .s)) 25 [.slice (some ⟨g,0,none⟩) n c]::R):=by
 obtain⟨g,h1,h2,h3,h4,h5⟩:=Mem.setEl (k:=k) (d:= .s x) (d':= .s y) (cs':=[sv y]) ((M.str (t:=9) hy).pull 1 rfl) underlying25 sC (λF cs h=>by obtain⟨_,rfl⟩:=Yz _ _ _ h;rfl);refine⟨g,h1,by have:=h2 0 dR;simpa using this,h3,h4,?_⟩;rw[<-dH]at h5;simp only[bt,cu]at h5;exact h5
theorem Mem.setVec {l:List Vec} {x y:Vec} {cs:List Value} (M:Mem prog w0 X w (.ow (.sl (l.map Vec.toD)) 36 [.slice A n c]:: .ow y.toD 38 cs::R)) (hk:l[k]?=some x):
 ∃g,A=some ⟨g,0,none⟩/\cs.length=8/\(∀j,j<8->∃u,w.cell? ⟨g,k*8+j,none⟩=some u)/\(∀j,w.frozen? ⟨g,j,none⟩=false)/\g<w.heap.size/\
  Mem prog w0 X (xB w g (k*8) cs) (.ow (.sl ((l.set k y).map Vec.toD)) 36 [.slice (some ⟨g,0,none⟩) n c]::R):=by
 have h8:∀{w:World} {z:Vec} {F:List Nat} {cs:List Value},own prog w z.toD 38 F cs->cs.length=8:=λh=>by obtain⟨_,_,_,_,_,_,_,_,_,_,_,_,_,_,_,_,_,_,_,_,rfl,-⟩:=jE h;rfl
 obtain⟨F,ho⟩:=M.own_ (d:=y.toD) (t:=38) (cs:=cs) dR;have hc:=h8 ho;obtain⟨g,h1,h2,h3,h4,h5⟩:=Mem.setEl (k:=k) (d:=x.toD) M underlying36 sC (λF cs h=>by rw[hc,h8 h]);rw[hc]at h2 h5;rw[<-dH]at h5;exact⟨g,h1,hc,h2,h3,h4,h5⟩
end
theorem pN (k:Int) (hk:¬k=5) (Ai:Option Addr) (ni ci:Nat) (Ap:Option Addr) (np cp:Nat) (An:Option Addr) (nn cn:Nat) (Ac:Option Addr) (nc cc:Nat) (Al:Option Addr) (nl cl:Nat) (co en:Int) (hl:(ni:Int)+np<=1000000) (w:World):
 Calls prog 107 #[.agg #[k,.slice Ai ni ci,.slice Ap np cp,.slice An nn cn,.slice Ac nc cc,.slice Al nl cl,co,en]] w λe w'=>e= .returned (.int .i64 ((ni+np:Nat):Int))/\Below w.heap.size w w':=by
 have hd:(k==5)=false:=jg;go_enter func107,ntmps107;go_wp2_with fail;go_ret;exact⟨eZ dP,(Below.refl _ _).alloc (af _) _⟩
theorem t8 (k:Int) (hk:¬k=5) (Ai:Option Addr) (ni ci:Nat) (Ap:Option Addr) (np cp:Nat) (An:Option Addr) (nn cn:Nat) (Ac:Option Addr) (nc cc:Nat) (Al:Option Addr) (nl cl:Nat) (co en:Int) (hl:(ni:Int)+np<=1000000) (w:World):
 Calls prog 118 #[.agg #[k,.slice Ai ni ci,.slice Ap np cp,.slice An nn cn,.slice Ac nc cc,.slice Al nl cl,co,en]] w λe w'=>e= .returned (.int .i64 ((ni+np:Nat):Int))/\Below w.heap.size w w':=by
 have hd:(k==5)=false:=jg;go_enter func118,ntmps118;go_wp2_with fail;go_ret;exact⟨eZ dP,(Below.refl _ _).alloc (af _) _⟩
theorem EA:∀(v:Vec) (cs:List Value) (w:World),rep w w.heap.size v.toD cs->bigV v->
 Calls prog 132 #[av cs] w λe w'=>e= .returned (.bool (mJ v))/\Below w.heap.size w w':=iH λv ih=>by
 intro cs w h ga;have Wr:=aa (xW v);obtain⟨Ai,ni,ci,Ap,np,cp,An,nn,cn,Ac,nc,cc,Al,nl,cl,rfl,hv⟩:=iy h;have q0:=(Below.refl w.heap.size w).alloc (af _) (.cells (vc v Ai ni ci Ap np cp An nn cn Ac nc cc Al nl cl).toArray 38);have L_:=Blk.new_ w 38 (vc v Ai ni ci Ap np cp An nn cn Ac nc cc Al nl cl).toArray;have mD:=hv.pab;unfold maxLen at mD;have Mn:=aa mD.2.2;have OA:np<=9223372036854775807:=dP;have xo:=aa ih;clear ih mD;go_enter func132,ntmps132;go_wp2_with fail;refine(ET v _ _ (fM h q0) ga).mono ?_;rintro e w1 ⟨rfl,hb1⟩;have q1:=ij q0 hb1;have c2:w1.cell? ⟨w.heap.size,2,none⟩=some (.slice Ap np cp):=(L_.next hb1).cell 2;cases hsh:h_ v with
 |false=>
  go_wp2_with fail;go_ret;exact⟨dZ (by rw[Wr.out,hsh];rfl),q1⟩
 |true=>
 go_wp2_with fail;go_loopw [11] (λi wr=>∃k:Nat,k<=np/\i= .int .i64 k/\(v.parts.take k).all mJ=true/\Below w.heap.size w wr) (λi _=>np - (intOf i).toNat)
 case atStart=>exact⟨0,by omega,rfl,rfl,q1⟩
 case round=>
  obtain⟨k,hk,rfl,hf,hb⟩:=hrel;have HF:=aa hf;clear hf;by_cases hlt:k<np
  ·obtain⟨b,off,x,Ru,SN,RP,Rx,SP,RS,Ct,CE,Hw,L4,JS,L7,Rv,SO,Mz,rfl,gD,hx,fE,hvx,c0,c1,c2,c3,c4,c5,c6,c7⟩:=rz (fF hv.pa hb) hlt;have HX:=aa hx;have HM:=aa (aA hx);clear hx;have q2:=hb.alloc hb.size (.cells (vc x Ru SN RP Rx SP RS Ct CE Hw L4 JS L7 Rv SO Mz).toArray 38);go_wp2_with fail;refine(xo.out x HM.out _ _ (fb fE (Below.alloc (Below.refl _ _) hb.size _) sx) (ga.part HM.out)).mono ?_;rintro e w2 ⟨rfl,jS⟩;cases hq:mJ x with
   |false=>
    go_wp2_with fail;go_ret;exact⟨dZ (by rw[Wr.out,nN HX.out hq];simp),ij q2 jS⟩
   |true=>
    go_wp2_with fail;go_roundw
    case rel=>exact⟨k+1,by omega,by go_num,iY HX.out HF.out hq,ij q2 jS⟩
    case measure=>simp [intOf];omega
  ·obtain rfl:k=np:=dP;go_wp2_with fail;go_ret;exact⟨dZ (by have:=HF.out;rw[aC lk]at this;rw[Wr.out,this,hsh];rfl),hb⟩
theorem ff (v:Vec) (cs:List Value) (w:World) (h:rep w w.heap.size v.toD cs) (ga:bigV v):
 Calls prog 64 #[av cs] w λe w'=>e= .returned (.bool (isVec v))/\Below w.heap.size w w':=by
 have hcb:=ga.cells;obtain⟨Ai,ni,ci,Ap,np,cp,An,nn,cn,Ac,nc,cc,Al,nl,cl,rfl,hv⟩:=iy h;have q0:=(Below.refl w.heap.size w).alloc (af _) (.cells (vc v Ai ni ci Ap np cp An nn cn Ac nc cc Al nl cl).toArray 38);have L_:=Blk.new_ w 38 (vc v Ai ni ci Ap np cp An nn cn Ac nc cc Al nl cl).toArray;have HI:=aa (show isVec v=(decide (mQ 4 v<=3)&&mJ v&&decide (jF v<=200)) by rw[isVec,abX]);go_enter func64,ntmps64;go_wp2_with fail;refine(Vn 4 dP v _ _ (fM h q0)).mono ?_;rintro e w1 ⟨rfl,hb1⟩;have q1:=ij q0 hb1;obtain⟨hc1,_⟩:=fY hb1;simp only[dT]at hc1;by_cases hn:mQ 4 v<=3
 case neg=>
  have hd:decide ((mQ 4 v:Int)<=3)=false:=aK dP;have HB:=aa (show isVec v=false by rw[HI.out,aK hn];rfl);clear hn;go_wp2_with fail;go_ret;exact⟨dZ HB.out.symm,q1⟩
 have hd:decide ((mQ 4 v:Int)<=3)=true:=aM dP;have HI2:=aa (show isVec v=(mJ v&&decide (jF v<=200)) by rw[HI.out,aM hn];rfl);clear hn;go_wp2_with fail;refine(EA v _ _ (fM (fM h q0) hb1) ga).mono ?_;rintro e w2 ⟨rfl,jS⟩;have q2:=ij q1 jS;obtain⟨hc2,_⟩:=fY jS;have y1:w.heap.size<w1.heap.size:=by have:=hb1.size;simp only[dT]at this;omega
 cases hp:mJ v with
 |false=>
  go_wp2_with fail;go_ret;exact⟨dZ (by rw[HI2.out,hp];rfl),q2⟩
 |true=>
 go_wp2_with fail;refine(RN v _ _ (fM (fM (fM h q0) hb1) jS) ga).mono ?_;rintro e w3 ⟨rfl,lE⟩;have HR:=aa (show isVec v=decide (jF v<=200) by rw[HI2.out,hp];rfl);go_wp2_with fail;go_ret;exact⟨dZ (by rw[HR.out,dL];omega),ij q2 lE⟩
theorem Ny (d:Nat) (Us:(d:Int)<=100):isP d:=by
 induction d with
 |zero=>exact QZ 0 Us (λd' h=>by omega)
 |succ d ih=>
  refine QZ (d+1) Us (λd' h=>?_);have hdd:d'=d:=dP;rw[hdd];exact ih dP
theorem ew (v:Vec) (cs:List Value) (w:World) (h:rep w w.heap.size v.toD cs) (ga:bigV v):
 Calls prog 67 #[av cs] w λe w'=>e= .returned (.bool (isVec v))/\Below w.heap.size w w':=by
 have hcb:=ga.cells;obtain⟨Ai,ni,ci,Ap,np,cp,An,nn,cn,Ac,nc,cc,Al,nl,cl,rfl,hv⟩:=iy h;have q0:=(Below.refl w.heap.size w).alloc (af _) (.cells (vc v Ai ni ci Ap np cp An nn cn Ac nc cc Al nl cl).toArray 38);go_enter func67,ntmps67;go_wp2_with fail;refine(Ny 3 dP v _ _ (fM h q0) ga).mono ?_;rintro e w1 ⟨rfl,hb1⟩;have q1:=ij q0 hb1;obtain⟨hc1,_⟩:=fY hb1;simp only[dT]at hc1;cases hp:okD 3 v with
 |false=>
  go_wp2_with fail;go_ret;exact⟨dZ (by rw[isVec,hp];rfl),q1⟩
 |true=>
 go_wp2_with fail;refine(Nx v _ _ (fM (fM h q0) hb1) ga).mono ?_;rintro e w2 ⟨rfl,jS⟩;have HR:=aa (show isVec v=decide (jF v<=200) by rw[isVec,hp];rfl);go_wp2_with fail;go_ret;exact⟨dZ (by rw[HR.out,dL];omega),ij q1 jS⟩
def AV (x:Hop):Bool:=
 if x.kind=0 then x.frm.isEmpty&&decide (x.at_=0)
 else if x.kind=2 then x.frm.isEmpty&&decide (1<=x.at_/\x.at_<=40)&&atomK x.value.kind&&decide (x.value.items.length=1)
 else if x.kind=1\/x.kind=3 then isNm x.frm&&decide (x.at_=0/\x.value.kind=0) else false
def je (x:Hop):Bool:=isNm x.name&&isVec x.value&& !xN x.value&&AV x
theorem kS (x:Hop) (cs:List Value) (w:World) (h:rep w w.heap.size x.toD cs) (ga:bigV x.value):
 Calls prog 36 #[av cs] w λe w'=>e= .returned (.bool (je x))/\Below w.heap.size w w':=by
 obtain⟨Ai,ni,ci,Ap,np,cp,An,nn,cn,Ac,nc,cc,Al,nl,cl,rfl,wk,wn,wf,wa,gF⟩:=lQ h;obtain⟨Ru,SN,RP,Rx,SP,RS,Ct,CE,Hw,L4,JS,L7,Rv,SO,Mz,lK,hv⟩:=iy gF;injection lK with _ lK;injection lK with e1 lK;injection lK with e2 lK;injection lK with e3 lK;injection lK with e4 lK;injection lK with e5 lK
 injection e1 with e11 e12 e13;subst e11 e12 e13
 have OQ:=aa hv.it.len;have L_:=Blk.new_ w 40 #[x.kind,sv x.name,sv x.frm,x.at_,x.value.kind,.slice Ai ni ci,.slice Ap np cp,.slice An nn cn,.slice Ac nc cc,.slice Al nl cl,x.value.code,x.value.env];have q0:=(Below.refl w.heap.size w).alloc (af _) (.cells #[x.kind,sv x.name,sv x.frm,x.at_,x.value.kind,.slice Ai ni ci,.slice Ap np cp,.slice An nn cn,.slice Ac nc cc,.slice Al nl cl,x.value.code,x.value.env] 40);have HI:=aa (show je x=(isNm x.name&&isVec x.value&& !xN x.value&&AV x) from rfl);clear e2 e3 e4 e5 lK;go_enter func36,ntmps36;go_wp2_with fail;refine(jK x.name _ wn).mono ?_;rintro e w1 ⟨rfl,rfl⟩;cases hn:isNm x.name with
 |false=>
  go_wp2_with fail;go_ret;exact⟨dZ (by rw[HI.out,hn];rfl),q0⟩
 |true=>
 go_wp2_with fail;refine(ff x.value _ _ (fM gF q0) ga).mono ?_;rintro e w2 ⟨rfl,jS⟩;have q2:=ij q0 jS;have U9:=L_.next jS;obtain⟨hc2,_⟩:=fY jS;simp only[dT]at hc2;cases hvv:isVec x.value with
 |false=>
  go_wp2_with fail;go_ret;exact⟨dZ (by rw[HI.out,hn,hvv];rfl),q2⟩
 |true=>
 go_wp2_with fail;refine(Cg x.value _ _ (fM (fM gF q0) jS)).mono ?_;rintro e w3 ⟨rfl,lE⟩;have q3:=ij q2 lE;have tz:=U9.next lE;have c0:=tz.cell 0;have c2:=tz.cell 2;have c3:=tz.cell 3;have c4:=tz.cell 4;have c5:=tz.cell 5;have c6:=tz.cell 6;have c7:=tz.cell 7;have c8:=tz.cell 8;have c9:=tz.cell 9;have c10:=tz.cell 10;have c11:=tz.cell 11;simp only[ah,ag]at c0 c2 c3 c4 c5 c6 c7 c8 c9 c10 c11;clear hc2;cases hff:xN x.value with
 |true=>
  go_wp2_with fail;go_ret;exact⟨dZ (by rw[HI.out,hn,hvv,hff];rfl),q3⟩
 |false=>
 have HR:=aa (show je x=AV x by rw[HI.out,hn,hvv,hff];rfl);by_cases k0:x.kind=0
 ·exact F0
 have t0:(x.kind==0)=false:=by simpa using k0
 by_cases k2:x.kind=2
 ·have t2:(x.kind==2)=true:=ot;have HK:=aa (show je x=(x.frm.isEmpty&&decide (1<=x.at_/\x.at_<=40)&&atomK x.value.kind&&decide (ni=1)) by rw[HR.out,AV,aH k0,aN k2,OQ.out]);clear k0 k2;cases hfe:x.frm.isEmpty with
  |false=>
   go_wp2_with fail;go_ret;exact⟨dZ (by rw[HK.out,hfe];rfl),q3⟩
  |true=>
  by_cases ha:1<=x.at_/\x.at_<=40
  case neg=>
   have HB:=aa (show je x=false by rw[HK.out,aK ha];simp);have HA:=aa ha;clear ha;go_wp2_with fail;all_goals first|(go_ret;exact⟨dZ HB.out.symm,q3⟩)|(exfalso;apply HA.out;omega)
  have a1:decide (1<=x.at_)=true:=aM ha.1;have a2:decide (x.at_<=40)=true:=aM ha.2;have HK2:=aa (show je x=(atomK x.value.kind&&decide (ni=1)) by rw[HK.out,hfe,aM ha];rfl);go_wp2_with fail;refine(oY x.value _ _ (fb gF q3 q3.size)).mono ?_;rintro e w4 ⟨rfl,DB⟩;have c45:=(tz.next DB).cell 5;simp only[ah,ag]at c45;cases hat:atomK x.value.kind with
  |false=>
   go_wp2_with fail;go_ret;exact⟨dZ (by rw[HK2.out,hat];rfl),ij q3 DB⟩
  |true=>
   go_wp2_with fail;go_ret;exact⟨dZ (by rw[HK2.out,hat,aj,bg];simp;omega),ij q3 DB⟩
 have t2:(x.kind==2)=false:=ot;by_cases k13:x.kind=1\/x.kind=3
 ·have HK:=aa (show je x=(isNm x.frm&&decide (x.at_=0/\x.value.kind=0)) by rw[HR.out,AV,aH k0,aH k2,aN k13]);clear k0 k2;rcases k13 with k1|k1
  case' inl=>have t1:(x.kind==1)=true:=by simpa using k1
  case' inr=>
   have t1:(x.kind==1)=false:=dS;have t3:(x.kind==3)=true:=by simpa using k1
  all_goals
   clear k1;go_wp2_with fail;refine(jK x.frm _ wf).mono ?_;rintro e w4 ⟨rfl,rfl⟩;cases hnf:isNm x.frm
   case false=>
    go_wp2_with fail;go_ret;exact⟨dZ (by rw[HK.out,hnf];rfl),q3⟩
   go_wp2_with fail;all_goals (go_ret;refine⟨dZ ?_,q3⟩;rw[HK.out,hnf,aj,bg];simp [*])
 ·have t1:(x.kind==1)=false:=dS;have t3:(x.kind==3)=false:=dS;have HK:=aa (show je x=false by rw[HR.out,AV,aH k0,aH k2,aH k13]);clear k0 k2 k13;go_wp2_with fail;go_ret;exact⟨dZ HK.out.symm,q3⟩
theorem kZ (x:Hop) (cs:List Value) (w:World) (h:rep w w.heap.size x.toD cs) (ga:bigV x.value):
 Calls prog 47 #[av cs] w λe w'=>e= .returned (.bool (je x))/\Below w.heap.size w w':=by
 obtain⟨Ai,ni,ci,Ap,np,cp,An,nn,cn,Ac,nc,cc,Al,nl,cl,rfl,wk,wn,wf,wa,gF⟩:=lQ h;obtain⟨Ru,SN,RP,Rx,SP,RS,Ct,CE,Hw,L4,JS,L7,Rv,SO,Mz,lK,hv⟩:=iy gF;injection lK with _ lK;injection lK with e1 lK;injection lK with e2 lK;injection lK with e3 lK;injection lK with e4 lK;injection lK with e5 lK
 injection e1 with e11 e12 e13;subst e11 e12 e13
 have OQ:=aa hv.it.len;have L_:=Blk.new_ w 40 #[x.kind,sv x.name,sv x.frm,x.at_,x.value.kind,.slice Ai ni ci,.slice Ap np cp,.slice An nn cn,.slice Ac nc cc,.slice Al nl cl,x.value.code,x.value.env];have q0:=(Below.refl w.heap.size w).alloc (af _) (.cells #[x.kind,sv x.name,sv x.frm,x.at_,x.value.kind,.slice Ai ni ci,.slice Ap np cp,.slice An nn cn,.slice Ac nc cc,.slice Al nl cl,x.value.code,x.value.env] 40);have HI:=aa (show je x=(isNm x.name&&isVec x.value&& !xN x.value&&AV x) from rfl);clear e2 e3 e4 e5 lK;go_enter func47,ntmps47;go_wp2_with fail;refine(gj _ _ _ _).mono ?_;rintro e w1 ⟨rfl,rfl⟩;cases hk:decide (0<=x.kind/\x.kind<=3) with
 |false=>
  have HB:=aa (show je x=false by have:=dm hk;rw[HI.out,AV,aH dP,aH dP,aH dP];simp)
  go_wp2_with fail;go_ret;exact⟨dZ HB.out.symm,q0⟩
 |true=>
 have hk':=cD hk;clear hk;go_wp2_with fail;refine(jL x.name _ wn).mono ?_;rintro e w1 ⟨rfl,rfl⟩;cases hn:isNm x.name with
 |false=>
  go_wp2_with fail;go_ret;exact⟨dZ (by rw[HI.out,hn];rfl),q0⟩
 |true=>
 go_wp2_with fail;refine(ew x.value _ _ (fM gF q0) ga).mono ?_;rintro e w2 ⟨rfl,jS⟩;have q2:=ij q0 jS;have U9:=L_.next jS;obtain⟨hc2,_⟩:=fY jS;simp only[dT]at hc2;cases hvv:isVec x.value with
 |false=>
  go_wp2_with fail;go_ret;exact⟨dZ (by rw[HI.out,hn,hvv];rfl),q2⟩
 |true=>
 go_wp2_with fail;refine(xT x.value _ _ (fM (fM gF q0) jS)).mono ?_;rintro e w3 ⟨rfl,lE⟩;have q3:=ij q2 lE;have tz:=U9.next lE;have c0:=tz.cell 0;have c2:=tz.cell 2;have c3:=tz.cell 3;have c4:=tz.cell 4;have c5:=tz.cell 5;simp only[ah,ag]at c0 c2 c3 c4 c5;clear hc2;cases hff:xN x.value with
 |true=>
  go_wp2_with fail;go_ret;exact⟨dZ (by rw[HI.out,hn,hvv,hff];rfl),q3⟩
 |false=>
 have HR:=aa (show je x=AV x by rw[HI.out,hn,hvv,hff];rfl);by_cases k0:x.kind=0
 ·exact F0
 have t0:(x.kind==0)=false:=by simpa using k0
 by_cases k2:x.kind=2
 ·have t2:(x.kind==2)=true:=ot;have HK:=aa (show je x=(x.frm.isEmpty&&decide (1<=x.at_/\x.at_<=40)&&atomK x.value.kind&&decide (ni=1)) by rw[HR.out,AV,aH k0,aN k2,OQ.out]);clear k0 k2;cases hfe:x.frm.isEmpty with
  |false=>
   go_wp2_with fail;go_ret;exact⟨dZ (by rw[HK.out,hfe];rfl),q3⟩
  |true=>
  go_wp2_with fail;refine(gj _ _ _ _).mono ?_;rintro e w4 ⟨rfl,rfl⟩;cases ha:decide (1<=x.at_/\x.at_<=40) with
  |false=>
   go_wp2_with fail;go_ret;exact⟨dZ (by rw[HK.out,ha];simp),q3⟩
  |true=>
  go_wp2_with fail;refine(gj _ _ _ _).mono ?_;rintro e w4 ⟨rfl,rfl⟩;cases hat:decide (1<=x.value.kind/\x.value.kind<=3) with
  |false=>
   go_wp2_with fail;go_ret;exact⟨dZ (by rw[HK.out,atomK,hat];simp),q3⟩
  |true=>
   go_wp2_with fail;go_ret;exact⟨dZ (by rw[HK.out,atomK,hat,ha,hfe,aj,aj,aj,bg];simp;omega),q3⟩
 have t2:(x.kind==2)=false:=ot;have HK:=aa (show je x=(isNm x.frm&&decide (x.at_=0/\x.value.kind=0)) by rw[HR.out,AV,aH k0,aH k2,aN dP]);clear k0 k2;go_wp2_with fail;refine(jL x.frm _ wf).mono ?_;rintro e w4 ⟨rfl,rfl⟩;cases hnf:isNm x.frm with
 |false=>
  go_wp2_with fail;go_ret;exact⟨dZ (by rw[HK.out,hnf];rfl),q3⟩
 |true=>
 go_wp2_with fail;all_goals (go_ret;refine⟨dZ ?_,q3⟩;rw[HK.out,hnf,aj,bg];simp [*])
def slotD (h:Hp) (s:Str):Int:=(h.slots[(ix h.names s 0).toNat]?).getD 0
def hasN (h:Hp) (s:Str):Bool:=decide (0<=ix h.names s 0)
def cellD (h:Hp) (s:Str):Int:=if hasN h s=true then slotD h s else -1
theorem jc (hk:fG h=true):h.names.length=h.slots.length/\i_ (m9 (lM h.cells.length (refs h))) h.cells=true/\i_ (λi s=>s7 h i s ((h.slots[i]?).getD 0)) h.names=true:=by simp only[fG,ax,aL]at hk;exact⟨hk.1.1.1.1,hk.1.2,hk.2⟩
theorem BA {s:Str} (hk:fG h=true) (hn:hasN h s=true):
 ∃i:Nat,ix h.names s 0=(i:Int)/\i<h.slots.length/\h.slots[i]?=some (slotD h s)/\0<=slotD h s/\slotD h s<h.cells.length/\depD h 3 (slotD h s)=true/\isVec (asm h 3 (slotD h s))=true:=by
 obtain⟨h1,h2,h3⟩:=jc hk;simp only[hasN,aL]at hn;have hg:=(pY h.names s 0).2;obtain⟨i,hi⟩:=bQ hn;have hil:i<h.slots.length:=dP;have hx:h.names[i]?=some (h.names[i]' dP):=aw dP;have hs:h.slots[i]?=some (slotD h s):=by unfold slotD;rw[hi,aU,aw hil];rfl
 have h4:=iC.1 h3 i _ hx;simp only[hs,bV,s7,ax]at h4;have h5:∀c∈h.cells,c.value.parts.length=0:=by intro c hc;obtain⟨j,hj,rfl⟩:=List.getElem_of_mem hc;have h6:=iC.1 h2 j _ (aw hj);simp only[m9,ax,aL]at h6;exact h6.1.2
 have hd:depD h 3 (slotD h s)=true:=by rw[Cx h5];exact h4.1.2
 have hr:=j7 (zp hd);simp only[inR,aL]at hr;exact⟨i,hi,hil,hs,hr.1,hr.2,hd,h4.2⟩
theorem kY {e:TypeId} (ht:P.underlying t=some (.slice e)):own P w (.sl []) t [] [()]:=by rw[own];exact⟨e,none,0,0,P.cellsOf e,[],[],ht,rfl,rfl,by unfold maxLen;omega,Own.nil_,rfl,by rw[iv];exact⟨rfl,rfl⟩⟩
theorem ST (w:World):own prog w zeroV.toD 38 [] [.int .i64 0,(),(),(),(),(),.int .i64 0,.int .i64 0]:=by
 refine jD (x:=zeroV) (Fitems:=[]) (Fparts:=[]) (Fnames:=[]) (Fcls:=[]) (Flevels:=[]) dQ ?_ ?_ ?_ ?_ ?_ dQ dQ
 ·exact kY underlying35
 ·exact kY underlying36
 ·exact kY underlying25
 ·exact kY underlying25
 ·exact kY underlying25
theorem tJ (h:Hp) (hl:h.names.length=h.slots.length) (s:Str) (cs:List Value) (w:World) (hr:rep w w.heap.size h.toD cs):
 Calls prog 38 #[av cs,sv s] w λe w'=>e= .returned (.int .i64 (cellD h s))/\Below w.heap.size w w':=by
 obtain⟨A,n,c,Am,nm,cm,As,ns,ca,rfl,rc,rn,rs,wc⟩:=iP hr;obtain⟨Wl,WG,ca',he,hsc,hsm,hs,_⟩:=(qy _ _ _ _).1 rs;injection he with he;injection he with f1 f2 f3;subst f1 f2 f3
 obtain⟨Am',nm',cm',he,hmc,hmm,hm,Ng⟩:=(ls _ _ _ _).1 rn;injection he with he;injection he with f1 f2 f3;subst f1 f2 f3
 have q0:=(Below.refl w.heap.size w).alloc (af _) (.cells #[.slice A n c,.slice Am nm cm,.slice As ns ca,h.copies] 28);have hg:=(pY h.names s 0).2;have AR:=hm.len;have xf:=hs.len;have R5:=jx Am nm cm h.names s (w.alloc (.cells #[.slice A n c,.slice Am nm cm,.slice As ns ca,h.copies] 28)) (hm.next q0) dP;cases hn:hasN h s with
 |false=>
  have hc:cellD h s= -1:=by simp [cellD,hn]
  have h0:ix h.names s 0<0:=by simp only[hasN,bB]at hn;omega
  have HC:=aa hc;clear hc hn hl AR xf hg;go_enter func38,ntmps38;go_wp2_with fail;refine R5.mono ?_;rintro e w1 ⟨rfl,rfl⟩;go_wp2_with fail;go_ret;exact⟨eZ HC.out.symm,q0⟩
 |true=>
  have hc:cellD h s=slotD h s:=by simp [cellD,hn]
  have h0:0<=ix h.names s 0:=by simpa [hasN]using hn
  obtain⟨i,hi⟩:=bQ h0;rw[hi]at R5 hg;obtain⟨bs,os,k,rfl,hbs,hk,Sk⟩:=(hs.below q0).atI (k:=i) dP;have hks:slotD h s=k:=by unfold slotD;rw[hi,aU,hk];rfl
  have hlt:(i:Int)<(ns:Int):=dP;have HC:=aa (hc.trans hks);clear hc hks hn hl AR xf hg hi h0 hk;go_enter func38,ntmps38;go_wp2_with fail;refine R5.mono ?_;rintro e w1 ⟨rfl,rfl⟩;go_wp2_with fail;go_ret;exact⟨eZ HC.out.symm,q0⟩
def zV8:List Value:=[.int .i64 0,.slice none 0 0,.slice none 0 0,.slice none 0 0,.slice none 0 0,.slice none 0 0,.int .i64 0,.int .i64 0]
def E_:Str:=[114,101,115,117,108,116,32,105,115,32,116,111,111,32,108,97,114,103,101]
theorem Ue (v:Vec) (cs:List Value) (w:World) (h:rep w w.heap.size v.toD cs) (ga:bigV v):
 Calls prog 161 #[.agg cs.toArray] w λe w'=>e= .returned (.tuple #[.agg (if isVec v=true then cs else zV8).toArray,sv (if isVec v=true then[] else E_)])/\Below w.heap.size w w':=by
 have h0:=h;obtain⟨Ai,ni,ci,Ap,np,cp,An,nn,cn,Ac,nc,cc,Al,nl,cl,rfl,wk,ri,rp,rn,rc,rl,wc,we⟩:=fw h;have q0:Below w.heap.size w ((w.alloc (.cells #[v.kind,.slice Ai ni ci,.slice Ap np cp,.slice An nn cn,.slice Ac nc cc,.slice Al nl cl,v.code,v.env] 38)).alloc (.cells #[.int .i64 0,(),(),(),(),(),.int .i64 0,.int .i64 0] 38)):=((Below.refl _ _).alloc (af _) _).alloc dR _;have k1:Blk ((w.alloc (.cells #[v.kind,.slice Ai ni ci,.slice Ap np cp,.slice An nn cn,.slice Ac nc cc,.slice Al nl cl,v.code,v.env] 38)).alloc (.cells #[.int .i64 0,(),(),(),(),(),.int .i64 0,.int .i64 0] 38)) w.heap.size 38 [v.kind,.slice Ai ni ci,.slice Ap np cp,.slice An nn cn,.slice Ac nc cc,.slice Al nl cl,v.code,v.env]:=(Blk.new' (l:=[.int .i64 v.kind,.slice Ai ni ci,.slice Ap np cp,.slice An nn cn,.slice Ac nc cc,.slice Al nl cl,.int .i64 v.code,.int .i64 v.env])).al;have k2:Blk ((w.alloc (.cells #[v.kind,.slice Ai ni ci,.slice Ap np cp,.slice An nn cn,.slice Ac nc cc,.slice Al nl cl,v.code,v.env] 38)).alloc (.cells #[.int .i64 0,(),(),(),(),(),.int .i64 0,.int .i64 0] 38)) (w.heap.size+1) 38 [.int .i64 0,(),(),(),(),(),.int .i64 0,.int .i64 0]:=ya;have Xw:=ff v _ _ (fb h0 q0 q0.size) ga;cases hv:isVec v with
 |true=>
  rw[hv]at Xw;go_enter func161,ntmps161;go_wp2_with fail;refine Xw.mono ?_;rintro e w1 ⟨rfl,hb1⟩;have D6:=k1.next hb1;have D8:=k2.next hb1;obtain⟨a0,a1,a2,a3,a4,a5,a6,a7⟩:=D6.c8;obtain⟨r0,r1,r2,r3,r4,r5,r6,r7⟩:=D8.c8;have zr:=λi=>D8.frozen i;have Tq:=zr 0;have zr1:=zr 1;have zr2:=zr 2;have zr3:=zr 3;have zr4:=zr 4;have zr5:=zr 5;have zr6:=zr 6;have zr7:=zr 7;have XB:w.heap.size<w1.heap.size:=D6.lt;have Cz:w.heap.size+1<w1.heap.size:=D8.lt;have fz1:=D6.frozen 3;clear zr;go_wp2_with fail;refine bM (v:= .tuple #[.agg #[v.kind,.slice Ai ni ci,.slice Ap np cp,.slice An nn cn,.slice Ac nc cc,.slice Al nl cl,v.code,v.env],sv []]) (by simp [results,results161,go_sem,r0,r1,r2,r3,r4,r5,r6,r7,Cz]) rfl ⟨rfl,?_⟩
  (repeat'(first|with_reducible assumption|with_reducible exact Below.refl _ _|with_reducible refine jR ?_|with_reducible refine gT ?_ ?_|with_reducible refine ie ?_ ?_|with_reducible refine gR ?_ dY ?_|((try simp only[dW,dT,dX]);omega)))
 |false=>
  rw[hv]at Xw;go_enter func161,ntmps161;go_wp2_with fail;refine Xw.mono ?_;rintro e w1 ⟨rfl,hb1⟩;have D6:=k1.next hb1;have D8:=k2.next hb1;obtain⟨a0,a1,a2,a3,a4,a5,a6,a7⟩:=D6.c8;obtain⟨r0,r1,r2,r3,r4,r5,r6,r7⟩:=D8.c8;have zr:=λi=>D8.frozen i;have Tq:=zr 0;have zr1:=zr 1;have zr2:=zr 2;have zr3:=zr 3;have zr4:=zr 4;have zr5:=zr 5;have zr6:=zr 6;have zr7:=zr 7;have XB:w.heap.size<w1.heap.size:=D6.lt;have Cz:w.heap.size+1<w1.heap.size:=D8.lt;have fz1:=D6.frozen 3;clear zr;go_wp2_with fail;refine bM (v:= .tuple #[.agg #[.int .i64 0,(),(),(),(),(),.int .i64 0,.int .i64 0],sv E_]) (by simp [results,results161,go_sem,r0,r1,r2,r3,r4,r5,r6,r7,Cz];try rfl) rfl ⟨rfl,?_⟩
  (repeat'(first|with_reducible assumption|with_reducible exact Below.refl _ _|with_reducible refine jR ?_|with_reducible refine gT ?_ ?_|with_reducible refine ie ?_ ?_|with_reducible refine gR ?_ dY ?_|((try simp only[dW,dT,dX]);omega)))
theorem SJ (v:Vec) (cs:List Value) (w:World) (h:rep w w.heap.size v.toD cs) (ga:bigV v):
 Calls prog 124 #[.agg cs.toArray] w λe w'=>e= .returned (.tuple #[.agg (if isVec v=true then cs else zV8).toArray,sv (if isVec v=true then[] else E_)])/\Below w.heap.size w w':=by
 have h0:=h;obtain⟨Ai,ni,ci,Ap,np,cp,An,nn,cn,Ac,nc,cc,Al,nl,cl,rfl,wk,ri,rp,rn,rc,rl,wc,we⟩:=fw h;have q0:Below w.heap.size w ((w.alloc (.cells #[v.kind,.slice Ai ni ci,.slice Ap np cp,.slice An nn cn,.slice Ac nc cc,.slice Al nl cl,v.code,v.env] 38)).alloc (.cells #[.int .i64 0,(),(),(),(),(),.int .i64 0,.int .i64 0] 38)):=((Below.refl _ _).alloc (af _) _).alloc dR _;have k1:Blk ((w.alloc (.cells #[v.kind,.slice Ai ni ci,.slice Ap np cp,.slice An nn cn,.slice Ac nc cc,.slice Al nl cl,v.code,v.env] 38)).alloc (.cells #[.int .i64 0,(),(),(),(),(),.int .i64 0,.int .i64 0] 38)) w.heap.size 38 [v.kind,.slice Ai ni ci,.slice Ap np cp,.slice An nn cn,.slice Ac nc cc,.slice Al nl cl,v.code,v.env]:=(Blk.new' (l:=[.int .i64 v.kind,.slice Ai ni ci,.slice Ap np cp,.slice An nn cn,.slice Ac nc cc,.slice Al nl cl,.int .i64 v.code,.int .i64 v.env])).al;have k2:Blk ((w.alloc (.cells #[v.kind,.slice Ai ni ci,.slice Ap np cp,.slice An nn cn,.slice Ac nc cc,.slice Al nl cl,v.code,v.env] 38)).alloc (.cells #[.int .i64 0,(),(),(),(),(),.int .i64 0,.int .i64 0] 38)) (w.heap.size+1) 38 [.int .i64 0,(),(),(),(),(),.int .i64 0,.int .i64 0]:=ya;have Xw:=ew v _ _ (fb h0 q0 q0.size) ga;cases hv:isVec v with
 |true=>
  rw[hv]at Xw;go_enter func124,ntmps124;go_wp2_with fail;refine Xw.mono ?_;rintro e w1 ⟨rfl,hb1⟩;have D6:=k1.next hb1;have D8:=k2.next hb1;obtain⟨a0,a1,a2,a3,a4,a5,a6,a7⟩:=D6.c8;obtain⟨r0,r1,r2,r3,r4,r5,r6,r7⟩:=D8.c8;have zr:=λi=>D8.frozen i;have Tq:=zr 0;have zr1:=zr 1;have zr2:=zr 2;have zr3:=zr 3;have zr4:=zr 4;have zr5:=zr 5;have zr6:=zr 6;have zr7:=zr 7;have XB:w.heap.size<w1.heap.size:=D6.lt;have Cz:w.heap.size+1<w1.heap.size:=D8.lt;have fz1:=D6.frozen 3;clear zr;go_wp2_with fail;refine bM (v:= .tuple #[.agg #[v.kind,.slice Ai ni ci,.slice Ap np cp,.slice An nn cn,.slice Ac nc cc,.slice Al nl cl,v.code,v.env],sv []]) (by simp [results,results124,go_sem,r0,r1,r2,r3,r4,r5,r6,r7,Cz]) rfl ⟨rfl,?_⟩
  (repeat'(first|with_reducible assumption|with_reducible exact Below.refl _ _|with_reducible refine jR ?_|with_reducible refine gT ?_ ?_|with_reducible refine ie ?_ ?_|with_reducible refine gR ?_ dY ?_|((try simp only[dW,dT,dX]);omega)))
 |false=>
  rw[hv]at Xw;go_enter func124,ntmps124;go_wp2_with fail;refine Xw.mono ?_;rintro e w1 ⟨rfl,hb1⟩;have D6:=k1.next hb1;have D8:=k2.next hb1;obtain⟨a0,a1,a2,a3,a4,a5,a6,a7⟩:=D6.c8;obtain⟨r0,r1,r2,r3,r4,r5,r6,r7⟩:=D8.c8;have zr:=λi=>D8.frozen i;have Tq:=zr 0;have zr1:=zr 1;have zr2:=zr 2;have zr3:=zr 3;have zr4:=zr 4;have zr5:=zr 5;have zr6:=zr 6;have zr7:=zr 7;have XB:w.heap.size<w1.heap.size:=D6.lt;have Cz:w.heap.size+1<w1.heap.size:=D8.lt;have fz1:=D6.frozen 3;clear zr;go_wp2_with fail;refine bM (v:= .tuple #[.agg #[.int .i64 0,(),(),(),(),(),.int .i64 0,.int .i64 0],sv E_]) (by simp [results,results124,go_sem,r0,r1,r2,r3,r4,r5,r6,r7,Cz];try rfl) rfl ⟨rfl,?_⟩
  (repeat'(first|with_reducible assumption|with_reducible exact Below.refl _ _|with_reducible refine jR ?_|with_reducible refine gT ?_ ?_|with_reducible refine ie ?_ ?_|with_reducible refine gR ?_ dY ?_|((try simp only[dW,dT,dX]);omega)))
theorem Lk (k:Int) (w:World):Calls prog 159 #[k] w λe w'=>e= .returned (.int .i64 (if k=5 then 4 else k))/\w=w':=by
 by_cases hk:k=5
 ·have d0:(k==5)=true:=by simp [hk]
  have HK:=aa hk;clear hk;go_enter func159,ntmps159;go_wp2_with fail;go_ret;exact⟨eZ (by first|rfl|rw[aN HK.out]),rfl⟩
 ·have d0:(k==5)=false:=by simp [hk]
  have HK:=aa hk;clear hk;go_enter func159,ntmps159;go_wp2_with fail;go_ret;exact⟨eZ (by first|rfl|rw[aH HK.out]),rfl⟩
theorem I7 (v:Vec) (Ai:Option Addr) (ni ci:Nat) (Ap:Option Addr) (np cp:Nat) (An:Option Addr) (nn cn:Nat) (Ac:Option Addr) (nc cc:Nat) (Al:Option Addr) (nl cl:Nat) (w:World) (h:rep w w.heap.size v.toD [v.kind,.slice Ai ni ci,.slice Ap np cp,.slice An nn cn,.slice Ac nc cc,.slice Al nl cl,v.code,v.env]):
 Calls prog 154 #[.agg #[v.kind,.slice Ai ni ci,.slice Ap np cp,.slice An nn cn,.slice Ac nc cc,.slice Al nl cl,v.code,v.env]] w λe w'=>e= .returned (.agg (if lR v.names=true then #[v.kind,.slice Ai ni ci,.slice Ap np cp,(),.slice Ac nc cc,.slice Al nl cl,v.code,v.env] else #[v.kind,.slice Ai ni ci,.slice Ap np cp,.slice An nn cn,.slice Ac nc cc,.slice Al nl cl,v.code,v.env]))/\Below w.heap.size w w':=by
 have h0:=h;obtain⟨Ru,SN,RP,Rx,SP,RS,Ct,CE,Hw,L4,JS,L7,Rv,SO,Mz,lK,wk,ri,rp,rn,rc,rl,wc,we⟩:=fw h;simp only[bF,bG,dy,cO]at lK;obtain⟨⟨rfl,rfl,rfl⟩,⟨rfl,rfl,rfl⟩,⟨rfl,rfl,rfl⟩,⟨rfl,rfl,rfl⟩,rfl,rfl,rfl⟩:=lK;have q0:Below w.heap.size w ((w.alloc (.cells #[v.kind,.slice Ai ni ci,.slice Ap np cp,.slice An nn cn,.slice Ac nc cc,.slice Al nl cl,v.code,v.env] 38)).alloc (.cells #[.int .i64 0,(),(),(),(),(),.int .i64 0,.int .i64 0] 38)):=((Below.refl _ _).alloc (af _) _).alloc dR _;have k1:Blk ((w.alloc (.cells #[v.kind,.slice Ai ni ci,.slice Ap np cp,.slice An nn cn,.slice Ac nc cc,.slice Al nl cl,v.code,v.env] 38)).alloc (.cells #[.int .i64 0,(),(),(),(),(),.int .i64 0,.int .i64 0] 38)) w.heap.size 38 [v.kind,.slice Ai ni ci,.slice Ap np cp,.slice An nn cn,.slice Ac nc cc,.slice Al nl cl,v.code,v.env]:=(Blk.new' (l:=[.int .i64 v.kind,.slice Ai ni ci,.slice Ap np cp,.slice An nn cn,.slice Ac nc cc,.slice Al nl cl,.int .i64 v.code,.int .i64 v.env])).al;have k2:Blk ((w.alloc (.cells #[v.kind,.slice Ai ni ci,.slice Ap np cp,.slice An nn cn,.slice Ac nc cc,.slice Al nl cl,v.code,v.env] 38)).alloc (.cells #[.int .i64 0,(),(),(),(),(),.int .i64 0,.int .i64 0] 38)) (w.heap.size+1) 38 [.int .i64 0,(),(),(),(),(),.int .i64 0,.int .i64 0]:=ya;obtain⟨An1,nn1,cn1,he,Nh,hnm,Nj,-⟩:=(ls _ _ _ _).1 (fb rn q0 q0.size);injection he with he;injection he with f1 f2 f3;subst f1 f2 f3
 have hAE:=za An nn cn v.names _ Nj dP;cases hv:lR v.names with
 |true=>
  rw[hv]at hAE;go_enter func154,ntmps154;go_wp2_with fail;refine hAE.mono ?_;rintro e w1 ⟨rfl,hb1⟩;have D6:=k1.next hb1;have D8:=k2.next hb1;obtain⟨a0,a1,a2,a3,a4,a5,a6,a7⟩:=D6.c8;obtain⟨r0,r1,r2,r3,r4,r5,r6,r7⟩:=D8.c8;have zr:=λi=>D8.frozen i;have Tq:=zr 0;have zr1:=zr 1;have zr2:=zr 2;have zr3:=zr 3;have zr4:=zr 4;have zr5:=zr 5;have zr6:=zr 6;have zr7:=zr 7;have XB:w.heap.size<w1.heap.size:=D6.lt;have Cz:w.heap.size+1<w1.heap.size:=D8.lt;have fz1:=D6.frozen 3;clear zr;go_wp2_with fail;refine bM (v:= .agg #[v.kind,.slice Ai ni ci,.slice Ap np cp,(),.slice Ac nc cc,.slice Al nl cl,v.code,v.env]) BT rfl ⟨rfl,?_⟩
  (repeat'(first|with_reducible assumption|with_reducible exact Below.refl _ _|with_reducible refine jR ?_|with_reducible refine gT ?_ ?_|with_reducible refine ie ?_ ?_|with_reducible refine gR ?_ dY ?_|((try simp only[dW,dT,dX]);omega)))
 |false=>
  rw[hv]at hAE;go_enter func154,ntmps154;go_wp2_with fail;refine hAE.mono ?_;rintro e w1 ⟨rfl,hb1⟩;have D6:=k1.next hb1;have D8:=k2.next hb1;obtain⟨a0,a1,a2,a3,a4,a5,a6,a7⟩:=D6.c8;obtain⟨r0,r1,r2,r3,r4,r5,r6,r7⟩:=D8.c8;have zr:=λi=>D8.frozen i;have Tq:=zr 0;have zr1:=zr 1;have zr2:=zr 2;have zr3:=zr 3;have zr4:=zr 4;have zr5:=zr 5;have zr6:=zr 6;have zr7:=zr 7;have XB:w.heap.size<w1.heap.size:=D6.lt;have Cz:w.heap.size+1<w1.heap.size:=D8.lt;have fz1:=D6.frozen 3;clear zr;go_wp2_with fail;refine bM (v:= .agg #[v.kind,.slice Ai ni ci,.slice Ap np cp,.slice An nn cn,.slice Ac nc cc,.slice Al nl cl,v.code,v.env]) BT rfl ⟨rfl,?_⟩
  (repeat'(first|with_reducible assumption|with_reducible exact Below.refl _ _|with_reducible refine jR ?_|with_reducible refine gT ?_ ?_|with_reducible refine ie ?_ ?_|with_reducible refine gR ?_ dY ?_|((try simp only[dW,dT,dX]);omega)))
theorem sK (x:Int) (h1:1<=x) (h2:x<=40) (w:World):Calls prog 111 #[x,.int .i64 1] w λe w'=>e= .returned (Me ⟨x,1,[]⟩)/\Below w.heap.size w w':=by
 have hg:Nat.gcd x.natAbs (1:Int).natAbs=1:=dR;have d1:decide (x< -4000000000000000000)=false:=dS;have d2:decide (4000000000000000000<x)=false:=dS;have HG:=aa hg;clear hg;have kR:Blk (w.alloc (.cells #[.int .i64 0,.int .i64 0,sv []] 135)) w.heap.size 135 [.int .i64 0,.int .i64 0,sv []]:=Blk.new' (l:=[.int .i64 0,.int .i64 0,sv []]);go_enter func111,ntmps111;go_wp2_with fail;refine(QL x 1 _ dP dP dP dP).mono ?_;rintro e w1 ⟨rfl,hb1⟩;rw[HG.out];obtain⟨hc1,hf1⟩:=fY hb1;have z1:=hb1.size;(try simp only[dW,dT,dX]at hc1 hf1 z1);have y1:w.heap.size<w1.heap.size:=dP;have hn:nZ ⟨x,1,[]⟩=true:=by simp [nZ];omega
 have HN:=aa hn;clear hn;go_wp2_with fail;refine bu ?_;refine aW (S:=λ_=>True) dU bO (λhH=>?_);have SX:True:=bO;refine ey 0 ?_;refine ey 1 ?_;refine ey 2 ?_;refine ey 3 ?_;refine ey 4 ?_;refine ey 5 ?_;refine ey 6 ?_;refine fZ 7 ?_;intro K hK;go_simp;refine hK _ _ ⟨bO,?_⟩;refine iW ?_;refine fZ 8 ?_;intro K hK;go_simp;refine hK _ _ ⟨bO,?_⟩;refine iW ?_;refine bv dU ?_ _;refine ba ?_;go_wp2_with fail;refine(pA ⟨x,1,[]⟩ _).mono ?_;rw[HN.out];rintro e w2 ⟨rfl,jS⟩;obtain⟨hc2,hf2⟩:=fY jS;have z2:=jS.size;(try simp only[dW,dT,dX]at hc2 hf2 z2);have y2:w.heap.size<w2.heap.size:=dP;have y3:w1.heap.size<w2.heap.size:=dP;have y4:w.heap.size<w1.heap.size+1:=dP;obtain⟨r0,r1,r2⟩:=Blk.c3 (Blk.next (Blk.dw (Blk.al (kR.next hb1))) jS);go_wp2_with fail;refine bM (v:=Me ⟨x,1,[]⟩) (by simp [results,results111,go_sem,r0,r1,r2,y1,y2,y3]) rfl ⟨rfl,?_⟩
 (repeat'(first|with_reducible assumption|with_reducible exact Below.refl _ _|with_reducible refine jR ?_|with_reducible refine gT ?_ ?_|with_reducible refine ie ?_ ?_|with_reducible refine gR ?_ dY ?_|((try simp only[dW,dT,dX]);omega)))
theorem xD (x:Int) (h1:1<=x) (h2:x<=40) (w:World):Calls prog 126 #[x,.int .i64 1] w λe w'=>e= .returned (Me ⟨x,1,[]⟩)/\Below w.heap.size w w':=by
 have hg:Nat.gcd x.natAbs (1:Int).natAbs=1:=dR;have d1:decide (-4000000000000000000<=x/\x<=4000000000000000000)=true:=dS;have d3:decide (-999999999<=x/\x<=999999999)=true:=dS;have d4:decide ((-4000000000000000000:Int)<=1/\(1:Int)<=4000000000000000000)=true:=dR;have HG:=aa hg;have D1:=aa d1;have D3:=aa d3;clear hg d1 d3;have kR:Blk (w.alloc (.cells #[.int .i64 0,.int .i64 0,sv []] 135)) w.heap.size 135 [.int .i64 0,.int .i64 0,sv []]:=Blk.new' (l:=[.int .i64 0,.int .i64 0,sv []]);go_enter func126,ntmps126;go_wp2_with fail;refine(gj _ _ _ _).mono ?_;rw[D1.out];rintro e w1 ⟨rfl,rfl⟩;go_wp2_with fail;refine(gj _ _ _ _).mono ?_;rw[d4];rintro e w1 ⟨rfl,rfl⟩;go_wp2_with fail;refine(JM x 1 _ dP dP dP dP).mono ?_;rintro e w1 ⟨rfl,hb1⟩;rw[HG.out];obtain⟨hc1,hf1⟩:=fY hb1;have z1:=hb1.size;(try simp only[dW,dT,dX]at hc1 hf1 z1);have y1:w.heap.size<w1.heap.size:=dP;go_wp2_with fail;refine bu ?_;refine aW (S:=λ_=>True) dU bO (λhH=>?_);have SX:True:=bO;refine ey 0 ?_;refine ey 1 ?_;refine ey 2 ?_;refine ey 3 ?_;refine ey 4 ?_;refine ey 5 ?_;refine ey 6 ?_;refine fZ 7 ?_;intro K hK;go_simp;refine hK _ _ ⟨bO,?_⟩;refine iW ?_;refine fZ 8 ?_;intro K hK;go_simp;refine hK _ _ ⟨bO,?_⟩;refine iW ?_;refine bv dU ?_ _;refine ba ?_;go_wp2_with fail;refine(gj _ _ _ _).mono ?_;rw[D3.out];rintro e w2 ⟨rfl,rfl⟩;have y4:w.heap.size<w1.heap.size+1:=dP;obtain⟨r0,r1,r2⟩:=Blk.c3 (kR.next hb1);go_wp2_with fail;refine bM (v:=Me ⟨x,1,[]⟩) (by simp [results,results126,go_sem,r0,r1,r2,y1]) rfl ⟨rfl,?_⟩
 (repeat'(first|with_reducible assumption|with_reducible exact Below.refl _ _|with_reducible refine jR ?_|with_reducible refine gT ?_ ?_|with_reducible refine ie ?_ ?_|with_reducible refine gR ?_ dY ?_|((try simp only[dW,dT,dX]);omega)))
def gy:List Cel->Nat->Option Nat
 |[],_=>none
 |c::t,i=>if c.count=0 then some i else gy t (i+1)
theorem uZ {l:List Cel} {i:Nat} {c:Cel} (hc:l[i]?=some c):gy (l.drop i) i=if c.count=0 then some i else gy (l.drop (i+1)) (i+1):=by
 have hi:=(ay.1 hc).1;rw[cR hi];rw[aw hi]at hc;injection hc with hc
 rw[gy,hc]
def gH (h:Hp) (c:Cel):Hp × Int:=match gy h.cells 0 with
 |some k=>(eG h k c,k)
 |none=>({h with cells:=h.cells++[c]},h.cells.length)
def lf:Cel:=⟨0,zeroV,[]⟩
def KP (c:Cel):Cel:={c with count:=c.count - 1}
def gE (c:Cel):Cel:={c with count:=c.count+1}
def iD:Nat->Hp->Int->Hp
 |0,h,_=>h
 |f+1,h,k=>if 0<(celD h k).count - 1 then eG h k.toNat (KP (celD h k)) else (celD h k).parts.foldl (iD f) (eG h k.toNat lf)
def allOK (ok:Hp->Int->Prop) (st:Hp->Int->Hp):Hp->List Int->Prop
 |_,[]=>True
 |h,p::t=>ok h p/\allOK ok st (st h p) t
def Xd (z:Int):Prop:= -1152921504606846976<=z/\z<=1152921504606846976
def relOK:Nat->Hp->Int->Prop
 |0,_,_=>False
 |f+1,h,k=>inR h k=true/\Xd (celD h k).count/\(0<(celD h k).count - 1\/allOK (relOK f) (iD f) (eG h k.toNat lf) (celD h k).parts)
def fd (h:Hp) (s:Str) (k:Int):Hp:=if 0<=ix h.names s 0 then iD 5 {h with slots:=h.slots.set (ix h.names s 0).toNat k} (slotD h s) else {h with names:=h.names++[s],slots:=h.slots++[k]}
theorem Blk.inj (h:Blk w g t cs) (h':Blk w g t' cs'):cs=cs':=by have:=h.symm.trans h';injection this with this;injection this with e1;simpa using e1
theorem pz {Ac An As L4 Ct Wl:Option Addr}{nc cn ns cs JS L7 CE Hw WG cs':Nat} (k:Blk w g t (px h Ac nc cc An nn cn As ns cs)) (k':Blk w g t' (px h L4 JS L7 Ct CE Hw Wl WG cs')):
 Ac=L4/\nc=JS/\cc=L7/\An=Ct/\nn=CE/\cn=Hw/\As=Wl/\ns=WG/\cs=cs':=by
 have e:=k.inj k';simp only[px,bF,bG,cO]at e;obtain⟨⟨a,b,c⟩,⟨d,e,f⟩,g,h,i⟩:=e;exact⟨a,b,c,d,e,f,g,h,i⟩
theorem Blk.put10 {h j' k':Value} (q:Blk w g t (pre++([a,b,c,d,e,f,h,i,j,k]++post))) (hp:pre.length=m):
 Blk ((((((((((w.setCell ⟨g,m,none⟩ a').setCell ⟨g,m+1,none⟩ b').setCell ⟨g,m+2,none⟩ c').setCell ⟨g,m+3,none⟩ d').setCell ⟨g,m+4,none⟩ e').setCell ⟨g,m+5,none⟩ f').setCell ⟨g,m+6,none⟩ h').setCell ⟨g,m+7,none⟩ i').setCell ⟨g,m+8,none⟩ j').setCell ⟨g,m+9,none⟩ k') g t (pre++([a',b',c',d',e',f',h',i',j',k']++post)):=by
 have q0:=q.put_ hp (j:=0) (o:=m) dR rfl a';have q1:=q0.put_ hp (j:=1) (o:=m+1) dR rfl b';have q2:=q1.put_ hp (j:=2) (o:=m+2) dR rfl c';have q3:=q2.put_ hp (j:=3) (o:=m+3) dR rfl d';have q4:=q3.put_ hp (j:=4) (o:=m+4) dR rfl e';have q5:=q4.put_ hp (j:=5) (o:=m+5) dR rfl f';have q6:=q5.put_ hp (j:=6) (o:=m+6) dR rfl h';have q7:=q6.put_ hp (j:=7) (o:=m+7) dR rfl i';have q8:=q7.put_ hp (j:=8) (o:=m+8) dR rfl j';exact q8.put_ hp (j:=9) (o:=m+9) dR rfl k'
theorem Q3 {h:Value} (hg:g∈F):
 Mod F w ((((((((((w.setCell ⟨g,m,none⟩ a).setCell ⟨g,m+1,none⟩ b).setCell ⟨g,m+2,none⟩ c).setCell ⟨g,m+3,none⟩ d).setCell ⟨g,m+4,none⟩ e).setCell ⟨g,m+5,none⟩ f).setCell ⟨g,m+6,none⟩ h).setCell ⟨g,m+7,none⟩ i).setCell ⟨g,m+8,none⟩ j).setCell ⟨g,m+9,none⟩ k):=by
 have p:∀(w:World) (o:Nat) (u:Value),Mod F w (w.setCell ⟨g,o,none⟩ u):=λw o u=>Mod.poke (F:=F) (p:=⟨g,o,none⟩) hg u;exact iV (iV (iV (iV (iV (iV (iV (iV (iV (p _ _ _) (p _ _ _) (λ_ h=>h)) (p _ _ _) (λ_ h=>h)) (p _ _ _) (λ_ h=>h)) (p _ _ _) (λ_ h=>h)) (p _ _ _) (λ_ h=>h)) (p _ _ _) (λ_ h=>h)) (p _ _ _) (λ_ h=>h)) (p _ _ _) (λ_ h=>h)) (p _ _ _) (λ_ h=>h)
theorem Blk.d10 {h:Value} (q:Blk w g t [a,b,c,d,e,f,h,i,j,k]):w.cell? ⟨g,0,none⟩=some a/\w.cell? ⟨g,1,none⟩=some b/\w.cell? ⟨g,2,none⟩=some c/\w.cell? ⟨g,3,none⟩=some d/\w.cell? ⟨g,4,none⟩=some e/\w.cell? ⟨g,5,none⟩=some f/\w.cell? ⟨g,6,none⟩=some h/\w.cell? ⟨g,7,none⟩=some i/\w.cell? ⟨g,8,none⟩=some j/\w.cell? ⟨g,9,none⟩=some k:=
 ⟨q.cell 0,q.cell 1,q.cell 2,q.cell 3,q.cell 4,q.cell 5,q.cell 6,q.cell 7,q.cell 8,q.cell 9⟩
theorem Blk.e10 {h:Value} (q:Blk w g t (pre++([a,b,c,d,e,f,h,i,j,k]++post))) (hp:pre.length=m):w.cell? ⟨g,m,none⟩=some a/\w.cell? ⟨g,m+1,none⟩=some b/\w.cell? ⟨g,m+2,none⟩=some c/\w.cell? ⟨g,m+3,none⟩=some d/\w.cell? ⟨g,m+4,none⟩=some e/\w.cell? ⟨g,m+5,none⟩=some f/\w.cell? ⟨g,m+6,none⟩=some h/\w.cell? ⟨g,m+7,none⟩=some i/\w.cell? ⟨g,m+8,none⟩=some j/\w.cell? ⟨g,m+9,none⟩=some k:=
 ⟨q.elem hp 0 dR,q.elem hp 1 dR,q.elem hp 2 dR,q.elem hp 3 dR,q.elem hp 4 dR,q.elem hp 5 dR,q.elem hp 6 dR,q.elem hp 7 dR,q.elem hp 8 dR,q.elem hp 9 dR⟩
theorem Blk.fr10 (q:Blk w g t cs):w.frozen? ⟨g,m,none⟩=false/\w.frozen? ⟨g,m+1,none⟩=false/\w.frozen? ⟨g,m+2,none⟩=false/\w.frozen? ⟨g,m+3,none⟩=false/\w.frozen? ⟨g,m+4,none⟩=false/\w.frozen? ⟨g,m+5,none⟩=false/\w.frozen? ⟨g,m+6,none⟩=false/\w.frozen? ⟨g,m+7,none⟩=false/\w.frozen? ⟨g,m+8,none⟩=false/\w.frozen? ⟨g,m+9,none⟩=false:=
 ⟨q.frozen _,q.frozen _,q.frozen _,q.frozen _,q.frozen _,q.frozen _,q.frozen _,q.frozen _,q.frozen _,q.frozen _⟩
theorem T4 {c:Cel} (h:own P w c.toD t F (a::r)):own P w (Cel.toD {c with count:=1}) t F (.int .i64 1::r):=by
 rw[m7,own]at h ⊢;obtain⟨KW,css,h1,h2,h3⟩:=h;rw[iB]at h3;obtain⟨t1,t2,F1,F2,c1,c2,e1,rfl,rfl,h4,h5⟩:=h3;rw[own]at h4;obtain⟨rfl,rfl,_⟩:=h4;refine⟨KW,[.int .i64 1]::c2,h1,?_,?_⟩
 ·simp at h2 ⊢;exact h2.2
 ·rw[iB];exact⟨t1,t2,[],F2,_,c2,e1,rfl,rfl,by rw[own];exact⟨rfl,rfl,kP.2 dR⟩,h5⟩
theorem Bg:ElemTy prog 24 43 10 176:=by obtain⟨i0,hi,rJ,tW,hz2⟩:=cZ Mj;exact⟨i0,_,underlying24,hi,rJ,tW,hz2,rfl,by omega⟩
theorem Dm {c:Cel} (h:own P w c.toD t F (a::r)) {z:Int} (hz:(Lit.int .i64 z).wf=true):own P w (Cel.toD {c with count:=z}) t F (.int .i64 z::r):=by
 rw[m7,own]at h ⊢;obtain⟨KW,css,h1,h2,h3⟩:=h;rw[iB]at h3;obtain⟨t1,t2,F1,F2,c1,c2,e1,rfl,rfl,h4,h5⟩:=h3;rw[own]at h4;obtain⟨rfl,rfl,_⟩:=h4;refine⟨KW,[.int .i64 z]::c2,h1,?_,?_⟩
 ·simp at h2 ⊢;exact h2.2
 ·rw[iB];exact⟨t1,t2,[],F2,_,c2,e1,rfl,rfl,by rw[own];exact⟨rfl,rfl,hz⟩,h5⟩
theorem JY (w:World):own prog w lf.toD 43 [] [.int .i64 0,.int .i64 0,(),(),(),(),(),.int .i64 0,.int .i64 0,()]:=
 uO (x:=lf) (Fvalue:=[]) (Fparts:=[]) dQ (ST w) (kY underlying26)
theorem rT {f:α->Int->α} {l:List Int} {a:α} {j:Nat} (h:l[j]?=some y):(l.take (j+1)).foldl f a=f ((l.take j).foldl f a) y:=by rw[List.take_add_one,h,List.foldl_append];rfl
theorem qR {ok:Hp->Int->Prop} {st:Hp->Int->Hp}:∀{l:List Int} {h:Hp} {j:Nat} {y:Int},allOK ok st h l->l[j]?=some y->ok ((l.take j).foldl st h) y
 |[],_,_,_,_,h'=>by simp at h'
 |p::t,h,0,y,ho,h'=>by simp at h';subst h';rw[allOK]at ho;exact ho.1
 |p::t,h,j+1,y,ho,h'=>by simp at h';rw[allOK]at ho;rw[cG,bC];exact qR ho.2 h'
theorem AG {B:Nat}{G Q:List Nat} (hq:∀y∈Q,y ∉ g::F) (hl:∀y∈Q,y<B) (s:Sub B F G):∀y∈Q,y ∉ g::G:=λy hy hm=>by
 rcases aX.1 hm with e|hm
 ·exact hq y hy mr
 ·rcases s y hm with h1|h1
  ·exact hq y hy kw
  ·have:=hl y hy;omega
theorem Kh:ElemTy prog 26 3 1 8:=GR
theorem Qz {B:Nat}{Y Z Y':List Nat} (h:(g::(X++(Y++Z))).Nodup) (hl:Lo B (g::(X++(Y++Z)))) (ap:AppF B Y [] Y'):(g::(X++(Y'++Z))).Nodup/\Sub B (X++(Y++Z)) (X++(Y'++Z))/\g ∉ Y':=by
 have hY:∀y∈Y',y∈Y\/B<=y:=λy hy=>by
  rcases ap.2 y hy with h1|h1|h1
  ·exact .inl h1
  ·simp at h1
  ·exact .inr dP
 refine⟨ub (X:=g::X) (Y:=Y) (Z:=Z) (Y':=Y') h ap.1 (λy hy=>?_),λy hy=>?_,λhm=>?_⟩
 ·rcases hY y hy with h1|h1
  ·exact .inl h1
  ·exact .inr (λhm=>by have:=hl y (by simpa using hm);omega)
 ·rcases aG.1 hy with hy|hy
  ·exact .inl eK
  ·rcases aG.1 hy with hy|hy
   ·rcases hY y hy with h1|h1
    ·exact .inl kw
    ·exact .inr h1
   ·exact .inl eK
 ·rcases hY g hm with h1|h1
  ·exact(aQ.1 h).1 kw
  ·have:=hl g dR;omega
section
variable {w w':World} {g B:Nat} {h:Hp} {Ac An As:Option Addr} {nc cc nn cn ns cs:Nat} {Fc Fn Fs:List Nat}
theorem HB.names_app (kB:Blk w g 28 (px h Ac nc cc An nn cn As ns cs)) (o1:own prog w (.sl (h.cells.map Cel.toD)) 24 Fc [.slice Ac nc cc]) (o3:own prog w (.sl (h.slots.map (D.i .i64))) 26 Fs [.slice As ns cs]) (wf:(Lit.int .i64 h.copies).wf=true) (nd:(g::(Fc++(Fn++(Fs++[])))).Nodup)
 (hl:Lo B (g::(Fc++(Fn++(Fs++[]))))) {yX:List Nat} {gg gc:Nat} {s:Str} (PP:own prog w' (.sl (h.names.map D.s++[D.s s])) 25 yX [.slice (some ⟨gg,0,none⟩) (nn+1) gc]) (ap:AppF B Fn [] yX) (md:Mod Fn w w'):
 ∃F',HB (w'.setCell ⟨g,1,none⟩ (.slice (some ⟨gg,0,none⟩) (nn+1) gc)) g {h with names:=h.names++[s]} F'/\Sub B (Fc++(Fn++(Fs++[]))) F':=by
 obtain⟨n1,n2,n3⟩:=Qz (X:=Fc) (Y:=Fn) (Z:=Fs++[]) nd hl ap;have hg:=(aQ.1 nd).1;have nF:=aE.1 (aQ.1 nd).2;have nG:=aE.1 nF.2.1;have IG:=(Blk.mod (g:=g) kB md (λhm=>hg eV)).set_ 1 (.slice (some ⟨gg,0,none⟩) (nn+1) gc);exact⟨_,HB.shut (h:={h with names:=h.names++[s]}) IG (ft (fH o1 md (λy hy hm=>nF.2.2 y hy y eV rfl)) (λhm=>hg eV)) (by rw[aI];exact ft PP n3) (ft (fH o3 md (λy hy hm=>nG.2.2 y hm y eK rfl)) (λhm=>hg eV)) wf n1,n2⟩
theorem HB.slots_app (kB:Blk w g 28 (px h Ac nc cc An nn cn As ns cs)) (o1:own prog w (.sl (h.cells.map Cel.toD)) 24 Fc [.slice Ac nc cc]) (o2:own prog w (.sl (h.names.map D.s)) 25 Fn [.slice An nn cn]) (wf:(Lit.int .i64 h.copies).wf=true) (nd:(g::(Fc++(Fn++(Fs++[])))).Nodup)
 (hl:Lo B (g::(Fc++(Fn++(Fs++[]))))) {yX:List Nat} {gg gc:Nat} {k:Int} (Vq:own prog w' (.sl (h.slots.map (D.i .i64)++[D.i .i64 k])) 26 yX [.slice (some ⟨gg,0,none⟩) (ns+1) gc]) (ap:AppF B Fs [] yX) (md:Mod Fs w w'):
 ∃F',HB (w'.setCell ⟨g,2,none⟩ (.slice (some ⟨gg,0,none⟩) (ns+1) gc)) g {h with slots:=h.slots++[k]} F'/\Sub B (Fc++(Fn++(Fs++[]))) F':=by
 obtain⟨n1,n2,n3⟩:=Qz (g:=g) (X:=Fc++Fn) (Y:=Fs) (Z:=[]) (by simpa using nd) (λy hy=>hl y (by simpa [or_assoc]using hy)) ap;have hg:=(aQ.1 nd).1;have nF:=aE.1 (aQ.1 nd).2;have nG:=aE.1 nF.2.1;have IG:=(Blk.mod (g:=g) kB md (λhm=>hg eV)).set_ 2 (.slice (some ⟨gg,0,none⟩) (ns+1) gc);exact⟨_,HB.shut (h:={h with slots:=h.slots++[k]}) IG (ft (fH o1 md (λy hy hm=>nF.2.2 y hy y eV rfl)) (λhm=>hg eV)) (ft (fH o2 md (λy hy hm=>nG.2.2 y hy y eV rfl)) (λhm=>hg eV)) (by rw[aI];exact ft Vq n3) wf (by simpa using n1),by simpa using n2⟩
end
theorem HB.slot_set (H:HB w g h F) {i:Nat} (hi:h.slots[i]?=some y) {k:Int} (hk:(Lit.int .i64 k).wf=true):
 ∃(Ac:Option Addr) (nc cc:Nat) (An:Option Addr) (nn cn bs ns cs:Nat),Blk w g 28 (px h Ac nc cc An nn cn (some ⟨bs,0,none⟩) ns cs)/\h.slots.length=ns/\ns<=maxLen/\w.cell? ⟨bs,i,none⟩=some (.int .i64 y)/\w.frozen? ⟨bs,i,none⟩=false/\bs∈F/\bs≠g/\
  HB (w.setCell ⟨bs,i,none⟩ (.int .i64 k)) g {h with slots:=h.slots.set i k} F:=by
 have sM:=H.nd;obtain⟨Ac,nc,cc,An,nn,cn,As,ns,cs,Fc,Fn,Fs,kB,rfl,o1,o2,o3,wf⟩:=H.open_;have hl:=ef (eW _ _ _ _ o3);rw[au]at hl;obtain⟨bs,Fa,Fd,Fb,cx,pre,post,rfl,rfl,ox,hp,hB,hw⟩:=ta underlying26 o3 (show (h.slots.map (D.i .i64))[i]?=some (D.i .i64 y) by rw[cg,hi];rfl);rw[own]at ox;obtain⟨rfl,rfl,_⟩:=ox;replace hp:pre.length=i:=by simpa using hp
 have hg:=(aQ.1 sM).1;have Zz:bs≠g:=λe=>hg mr;have nF:=aE.1 (aQ.1 sM).2;have nG:=aE.1 nF.2.1;have hbs:bs ∉ Fa++Fb:=by have:=nG.2.1;rw[bP]at this;have:=(aQ.1 this).1;simpa using this
 have md:Mod [bs] w (w.setCell ⟨bs,i,none⟩ (.int .i64 k)):=Mod.poke dR _;have Vq:=hw (w.setCell ⟨bs,i,none⟩ (.int .i64 k)) (D.i .i64 k) [k] [] rfl (by rw[own];exact⟨rfl,rfl,hk⟩) (by have:=Blk.put_ hB hp (j:=0) (o:=i) dR gO (.int .i64 k);exact this) (λx hx=>md.2.2 x (by have:=jT _ _ _ _ o3 x (by rcases aG.1 hx with hx|hx<;>simp [hx]);exact this) (by simp;rintro rfl;exact hbs hx))
 have e0:=hB.elem hp 0 dR;refine⟨Ac,nc,cc,An,nn,cn,bs,ns,cs,kB,hl.1,by omega,e0,hB.frozen _,by simp,Zz,?_⟩;rw[<-dH]at Vq;exact HB.shut (h:={h with slots:=h.slots.set i k}) (Blk.mod (g:=g) kB md (by simp;exact Zz.symm)) (fH o1 md (λy hy hm=>by simp at hm;subst hm;exact nF.2.2 y hy y dR rfl)) (fH o2 md (λy hy hm=>by simp at hm;subst hm;exact nG.2.2 y hy y dR rfl)) Vq wf sM
def js (st:Hp->Vec->Hp × Int) (s:Hp × List Int) (p:Vec):Hp × List Int:=((st s.1 p).1,s.2++[(st s.1 p).2])
abbrev noParts (v:Vec):Vec:={v with parts:=[]}
def fL:Nat->Hp->Vec->Hp × Int
 |0,h,_=>(h,0)
 |f+1,h,v=>gH (v.parts.foldl (js (fL f)) (h,[])).1 ⟨1,noParts v,(v.parts.foldl (js (fL f)) (h,[])).2⟩
def Ba (ok:Hp->Vec->Prop) (st:Hp->Vec->Hp × Int):Hp × List Int->List Vec->Prop
 |_,[]=>True
 |s,p::t=>ok s.1 p/\Ba ok st (js st s p) t
def rX:Nat->Hp->Vec->Prop
 |0,_,_=>False
 |f+1,h,v=>Ba (rX f) (fL f) (h,[]) v.parts/\((v.parts.foldl (js (fL f)) (h,[])).1.cells.length:Int)<=1073741824/\szD v.toD<=100000000000/\(v.parts.length:Int)<=1073741824
theorem qC {f:α->Vec->α} {l:List Vec} {a:α} {j:Nat} {y:Vec} (h:l[j]?=some y):(l.take (j+1)).foldl f a=f ((l.take j).foldl f a) y:=by rw[List.take_add_one,h,List.foldl_append];rfl
theorem vL {ok:Hp->Vec->Prop} {st:Hp->Vec->Hp × Int}:∀{l:List Vec} {s:Hp × List Int} {j:Nat} {y:Vec},Ba ok st s l->l[j]?=some y->ok ((l.take j).foldl (js st) s).1 y
 |[],_,_,_,_,h'=>by simp at h'
 |p::t,s,0,y,ho,h'=>by simp at h';subst h';rw[Ba]at ho;exact ho.1
 |p::t,s,j+1,y,ho,h'=>by simp at h';rw[Ba]at ho;rw[cG,bC];exact vL ho.2 h'
theorem tM:∀{l:List Cel} {i k:Nat},gy l i=some k->k<i+l.length
 |[],i,k,h=>by simp [gy]at h
 |c::t,i,k,h=>by
  rw[gy]at h;split at h
  ·injection h with h;simp;omega
  ·have:=tM h;simp;omega
theorem E6 {h:Hp} {c:Cel} (hl:(h.cells.length:Int)<=1073741824):(Lit.int .i64 (gH h c).2).wf=true:=by
 rw[kP];unfold gH;cases hf:gy h.cells 0 with
 |none=>simp only;omega
 |some k=>have:=tM hf;simp only;omega
def ab1 (fn:Nat) (f:Nat):Prop:=∀(h:Hp) (v:Vec) (g:Nat) (F:List Nat) (B:Nat) (cs:List Value) (w:World),HB w g h F->rep w B v.toD cs->B<=w.heap.size->(∀y∈g::F,B<=y)->rX f h v->
 Calls prog fn #[.pointer (some ⟨g,0,none⟩),.agg cs.toArray] w λe w'=>e= .returned (.int .i64 (fL f h v).2)/\(Lit.int .i64 (fL f h v).2).wf=true/\∃F',HB w' g (fL f h v).1 F'/\Sub w.heap.size F F'/\Mod (g::F) w w'
theorem air {p q:Value} (k:Blk w g t [p,a',b',c',d',e',f',h',i',q]) (a b c d e f h i:Value):
 Blk ((((((((w.setCell ⟨g,1,none⟩ a).setCell ⟨g,2,none⟩ b).setCell ⟨g,3,none⟩ c).setCell ⟨g,4,none⟩ d).setCell ⟨g,5,none⟩ e).setCell ⟨g,6,none⟩ f).setCell ⟨g,7,none⟩ h).setCell ⟨g,8,none⟩ i) g t [p,a,b,c,d,e,f,h,i,q]/\Mod [g] w ((((((((w.setCell ⟨g,1,none⟩ a).setCell ⟨g,2,none⟩ b).setCell ⟨g,3,none⟩ c).setCell ⟨g,4,none⟩ d).setCell ⟨g,5,none⟩ e).setCell ⟨g,6,none⟩ f).setCell ⟨g,7,none⟩ h).setCell ⟨g,8,none⟩ i):=by
 have P:∀(w:World) (o:Nat) (u:Value),Mod [g] w (w.setCell ⟨g,o,none⟩ u):=λw o u=>Mod.poke (F:=[g]) (p:=⟨g,o,none⟩) dR u;exact⟨(((((((k.set_ 1 a).set_ 2 b).set_ 3 c).set_ 4 d).set_ 5 e).set_ 6 f).set_ 7 h).set_ 8 i,iV (iV (iV (iV (iV (iV (iV (P _ _ _) (P _ _ _) (λ_ h=>h)) (P _ _ _) (λ_ h=>h)) (P _ _ _) (λ_ h=>h)) (P _ _ _) (λ_ h=>h)) (P _ _ _) (λ_ h=>h)) (P _ _ _) (λ_ h=>h)) (P _ _ _) (λ_ h=>h)⟩
theorem nK {B:Nat}:rep w B (.sl []) [()]:=by rw[rep];exact⟨none,0,0,0,[],rfl,af _,by unfold maxLen;omega,Reads.nil_,EO⟩
theorem PO (v:Vec):szD (noParts v).toD<=szD v.toD:=by rw[go,go];simp only[szD,gv,bL,bf];omega
def l_ (y:Int):Item:=⟨y,1,[]⟩
def nU (l:List Int):Vec:=⟨2,l.map l_,[],[],[],[],0,0⟩
theorem vt (l:List Int) (jb:∀y∈l,1<=y/\y<=40) (A:Option Addr) (n c:Nat) (w:World) (h:rep w w.heap.size (.sl (l.map (D.i .i64))) [.slice A n c]) (hn:(n:Int)<=40):Calls prog 43 #[.slice A n c] w (gM (nU l).toD 38 w):=by
 obtain⟨A',n',c',he,Nh,hnm,hr,-⟩:=(qy _ _ _ _).1 h;injection he with he;injection he with f1 f2 f3;subst f1 f2 f3
 have HL:=aa hr.len;have HA:=aa jb;clear jb;have O6:Below w.heap.size w ((w.alloc (.cells #[.int .i64 0,(),(),(),(),(),.int .i64 0,.int .i64 0] 38)).alloc (.cells #[.int .i64 2,(),(),(),(),(),.int .i64 0,.int .i64 0] 38)):=((Below.refl _ _).alloc (af _) _).alloc dR _;have kR0:Blk ((w.alloc (.cells #[.int .i64 0,(),(),(),(),(),.int .i64 0,.int .i64 0] 38)).alloc (.cells #[.int .i64 2,(),(),(),(),(),.int .i64 0,.int .i64 0] 38)) w.heap.size 38 [.int .i64 0,(),(),(),(),(),.int .i64 0,.int .i64 0]:=(Blk.new' (l:=[.int .i64 0,.slice none 0 0,.slice none 0 0,.slice none 0 0,.slice none 0 0,.slice none 0 0,.int .i64 0,.int .i64 0])).al;have k30:Blk ((w.alloc (.cells #[.int .i64 0,(),(),(),(),(),.int .i64 0,.int .i64 0] 38)).alloc (.cells #[.int .i64 2,(),(),(),(),(),.int .i64 0,.int .i64 0] 38)) (w.heap.size+1) 38 [.int .i64 2,(),(),(),(),(),.int .i64 0,.int .i64 0]:=Gs;go_enter func43,ntmps43;go_wp2_with fail;obtain⟨W,hW⟩:∃W,W=((w.alloc (.cells #[.int .i64 0,(),(),(),(),(),.int .i64 0,.int .i64 0] 38)).alloc (.cells #[.int .i64 2,(),(),(),(),(),.int .i64 0,.int .i64 0] 38)):=⟨_,rfl⟩;rw[<-hW]at O6 kR0 k30 ⊢;clear hW;go_loopw [13] (λi wr=>∃(j:Nat) (Aq:Option Addr) (cq:Nat) (Fq:List Nat),j<=n/\i= .int .i64 j/\Blk wr w.heap.size 38 [.int .i64 0,(),(),(),(),(),.int .i64 0,.int .i64 0]/\Blk wr (w.heap.size+1) 38 [.int .i64 2,.slice Aq j cq,(),(),(),(),.int .i64 0,.int .i64 0]/\own prog wr (.sl (((l.take j).map l_).map Item.toD)) 35 Fq [.slice Aq j cq]/\Fresh (w.heap.size+1+1) Fq/\Below w.heap.size w wr) (λi _=>n - (intOf i).toNat)
 case atStart=>exact⟨0,none,0,[],by omega,rfl,kR0,k30,kY underlying35,Fresh.nil,O6⟩
 case round=>
  clear kR0 k30 O6;obtain⟨j,Aq,cq,Fq,hj,rfl,kR,k3,oq,qL,bel⟩:=hrel;have hwr:w.heap.size+1<wr.heap.size:=k3.lt;by_cases hlj:j<n
  ·obtain⟨b,off,y,rfl,gD,hy,R9⟩:=hr.atI hlj;obtain⟨WF,Ya⟩:=HA.out y (aA hy);have HX:=aa hy;have hcy:=(bel.cell (p:=⟨b,off+j,none⟩) gD).trans R9;have j0:(0:Int)<=(j:Int):=dP;have j1:(j:Int)<(n:Int):=dP;clear hy;go_wp2_with fail;refine bu ?_;refine aW (S:=λV=>True) dU bO (λhH=>?_);replace kR:=kR.dw;replace k3:=k3.dw;replace oq:=gX oq;replace bel:=bel.drew;have abE:w.heap.size+1<wr.drew.heap.size:=hwr;have XH:wr.drew.cell? ⟨b,off+j,none⟩=some (.int .i64 y):=hcy;have SX:=(show True from bO);generalize wr.drew=v0 at kR k3 oq bel abE XH SX ⊢;have cv0:=k3.cell 1;simp only[ah,ag]at cv0;refine ey 0 ?_;refine ey 2 ?_;refine dG (rs:=[1,3]) dU dR (λi hi=>?_);simp only[aX,df,ce]at hi;rcases hi with rfl|rfl;all_goals refine dD gO (λK hK=>?_)
   ·go_simp;refine hK _ _ ⟨SX,?_⟩;refine iW ?_;refine fZ 3 ?_;intro K hK;go_simp;go_at_call 111;refine(sK y WF Ya _).mono ?_;rintro e w3 ⟨rfl,lE⟩;have z3:=lE.size;have Yf:=kR.next lE;have CC:=k3.next lE;have ZY:=em oq lE;have x4:Below w3.heap.size w3 (w3.alloc (.cells #[.int .i64 y,.int .i64 1,sv []] 135)):=(Below.refl _ _).alloc (af _) _;have kn4:Blk (w3.alloc (.cells #[.int .i64 y,.int .i64 1,sv []] 135)) w3.heap.size 135 [.int .i64 y,.int .i64 1,sv []]:=Blk.new' (l:=[.int .i64 y,.int .i64 1,sv []]);have Jm:=CC.cell 1;simp only[ah,ag]at Jm;have Jn:=(CC.next x4).cell 1;simp only[ah,ag]at Jn;have KG:=ij bel lE;refine hK _ _ ⟨bO,?_⟩;refine iW ?_;refine fZ 4 ?_;intro K hK;go_simp;refine hK _ _ ⟨bO,?_⟩;refine iW ?_;refine fZ 5 ?_;intro K hK;refine gL (A:=Aq) (n:=j) (c:=cq) (b:=w3.heap.size) (m:=1) (xs:=((l.take j).map l_).map Item.toD) (F:=Fq) (d:=(l_ y).toD) (F':=[]) (te:=135) (cs:=[.int .i64 y,.int .i64 1,sv []]) kM ?_ ?_ (.tmp 18) (.tmp 21) ?_ ?_ ?_ ?_ ?_ ?_ ?_ ?_ ?_ ?_ ?_
    ·kernel_rfl
    ·rfl
    ·rfl
    ·rfl
    ·exact lz
    ·rfl
    ·exact kn4
    ·exact pI
    ·rfl
    ·exact lw
    ·exact g8
    ·omega
    intro gg gc w5 F5 o5 ap5 md5;simp only[dT]at ap5;have U8:=Blk.mod (g:=w.heap.size) (Yf.next x4) md5 (qL.notin dP);have vB:=Blk.mod (g:=w.heap.size+1) (CC.next x4) md5 (qL.notin dP);have z5:=md5.size;simp only[dT]at z5;have uW:=jN (ij KG x4) md5 (λy hy=>by have:=qL.2 y hy;omega) eA;have pU:=vB.cell 1;simp only[ah,ag]at pU;have Zr:=vB.frozen 1;have UL:w.heap.size+1<w5.heap.size:=vB.lt;refine hK _ _ ⟨bO,?_⟩;refine iW ?_;have SX2:=(show _ from bO);refine ey 6 ?_;refine fZ 7 ?_;intro K hK;go_simp;refine hK _ _ ⟨bO,?_⟩;refine iW ?_;refine bv dU ?_ _;refine ba ?_;clear Jm Jn pU;go_wp2_with fail;go_roundw
    case rel=>
     have Tt:∀y∈F5,y∈Fq\/w.heap.size+1+1<=y:=λy hy=>pF;have MU:∀y∈F5,w.heap.size+1+1<=y:=λy hy=>pG;refine⟨j+1,some ⟨gg,0,none⟩,gc,F5,by omega,by go_num,Blk.pk (p:=⟨w.heap.size+1,1,none⟩) iT U8,vB.set_ 1 _,?_,⟨ap5.1,MU⟩,uW.setCell kt _⟩;rw[eJ HX.out,aI,aI];exact ft o5 (λhm=>by have:=MU _ hm;simp at this;omega)
    case measure=>simp [intOf];omega
   ·
    go_simp;go_at_call 111;refine(sK y WF Ya _).mono ?_;rintro e w3 ⟨rfl,lE⟩;have z3:=lE.size;have Yf:=kR.next lE;have CC:=k3.next lE;have ZY:=em oq lE;have x4:Below w3.heap.size w3 (w3.alloc (.cells #[.int .i64 y,.int .i64 1,sv []] 135)):=(Below.refl _ _).alloc (af _) _;have kn4:Blk (w3.alloc (.cells #[.int .i64 y,.int .i64 1,sv []] 135)) w3.heap.size 135 [.int .i64 y,.int .i64 1,sv []]:=Blk.new' (l:=[.int .i64 y,.int .i64 1,sv []]);have Jm:=CC.cell 1;simp only[ah,ag]at Jm;have Jn:=(CC.next x4).cell 1;simp only[ah,ag]at Jn;have KG:=ij bel lE;refine hK _ _ ⟨bO,?_⟩;refine iW ?_;refine dG (rs:=[1,4]) dU dR (λi hi=>?_);simp only[aX,df,ce]at hi;rcases hi with rfl|rfl;all_goals refine dD gO (λK hK=>?_)
    ·go_simp;refine hK _ _ ⟨bO,?_⟩;refine iW ?_;refine fZ 4 ?_;intro K hK;go_simp;refine hK _ _ ⟨bO,?_⟩;refine iW ?_;refine fZ 5 ?_;intro K hK;refine gL (A:=Aq) (n:=j) (c:=cq) (b:=w3.heap.size) (m:=1) (xs:=((l.take j).map l_).map Item.toD) (F:=Fq) (d:=(l_ y).toD) (F':=[]) (te:=135) (cs:=[.int .i64 y,.int .i64 1,sv []]) kM ?_ ?_ (.tmp 18) (.tmp 21) ?_ ?_ ?_ ?_ ?_ ?_ ?_ ?_ ?_ ?_ ?_
     ·kernel_rfl
     ·rfl
     ·rfl
     ·rfl
     ·exact lz
     ·rfl
     ·exact kn4
     ·exact pI
     ·rfl
     ·exact lw
     ·exact g8
     ·omega
     intro gg gc w5 F5 o5 ap5 md5;simp only[dT]at ap5;have U8:=Blk.mod (g:=w.heap.size) (Yf.next x4) md5 (qL.notin dP);have vB:=Blk.mod (g:=w.heap.size+1) (CC.next x4) md5 (qL.notin dP);have z5:=md5.size;simp only[dT]at z5;have uW:=jN (ij KG x4) md5 (λy hy=>by have:=qL.2 y hy;omega) eA;have pU:=vB.cell 1;simp only[ah,ag]at pU;have Zr:=vB.frozen 1;have UL:w.heap.size+1<w5.heap.size:=vB.lt;refine hK _ _ ⟨bO,?_⟩;refine iW ?_;have SX2:=(show _ from bO);refine ey 6 ?_;refine fZ 7 ?_;intro K hK;go_simp;refine hK _ _ ⟨bO,?_⟩;refine iW ?_;refine bv dU ?_ _;refine ba ?_;clear Jm Jn pU;go_wp2_with fail;go_roundw
     case rel=>
      have Tt:∀y∈F5,y∈Fq\/w.heap.size+1+1<=y:=λy hy=>pF;have MU:∀y∈F5,w.heap.size+1+1<=y:=λy hy=>pG;refine⟨j+1,some ⟨gg,0,none⟩,gc,F5,by omega,by go_num,Blk.pk (p:=⟨w.heap.size+1,1,none⟩) iT U8,vB.set_ 1 _,?_,⟨ap5.1,MU⟩,uW.setCell kt _⟩;rw[eJ HX.out,aI,aI];exact ft o5 (λhm=>by have:=MU _ hm;simp at this;omega)
     case measure=>simp [intOf];omega
    ·go_simp;refine hK _ _ ⟨bO,?_⟩;refine iW ?_;refine fZ 1 ?_;intro K hK;go_simp;refine hK _ _ ⟨bO,?_⟩;refine iW ?_;refine fZ 5 ?_;intro K hK;refine gL (A:=Aq) (n:=j) (c:=cq) (b:=w3.heap.size) (m:=1) (xs:=((l.take j).map l_).map Item.toD) (F:=Fq) (d:=(l_ y).toD) (F':=[]) (te:=135) (cs:=[.int .i64 y,.int .i64 1,sv []]) kM ?_ ?_ (.tmp 18) (.tmp 21) ?_ ?_ ?_ ?_ ?_ ?_ ?_ ?_ ?_ ?_ ?_
     ·kernel_rfl
     ·rfl
     ·rfl
     ·rfl
     ·exact lz
     ·rfl
     ·exact kn4
     ·exact pI
     ·rfl
     ·exact lw
     ·exact g8
     ·omega
     intro gg gc w5 F5 o5 ap5 md5;simp only[dT]at ap5;have U8:=Blk.mod (g:=w.heap.size) (Yf.next x4) md5 (qL.notin dP);have vB:=Blk.mod (g:=w.heap.size+1) (CC.next x4) md5 (qL.notin dP);have z5:=md5.size;simp only[dT]at z5;have uW:=jN (ij KG x4) md5 (λy hy=>by have:=qL.2 y hy;omega) eA;have pU:=vB.cell 1;simp only[ah,ag]at pU;have Zr:=vB.frozen 1;have UL:w.heap.size+1<w5.heap.size:=vB.lt;refine hK _ _ ⟨bO,?_⟩;refine iW ?_;have SX2:=(show _ from bO);refine ey 6 ?_;refine fZ 7 ?_;intro K hK;go_simp;refine hK _ _ ⟨bO,?_⟩;refine iW ?_;refine bv dU ?_ _;refine ba ?_;clear Jm Jn pU;go_wp2_with fail;go_roundw
     case rel=>
      have Tt:∀y∈F5,y∈Fq\/w.heap.size+1+1<=y:=λy hy=>pF;have MU:∀y∈F5,w.heap.size+1+1<=y:=λy hy=>pG;refine⟨j+1,some ⟨gg,0,none⟩,gc,F5,by omega,by go_num,Blk.pk (p:=⟨w.heap.size+1,1,none⟩) iT U8,vB.set_ 1 _,?_,⟨ap5.1,MU⟩,uW.setCell kt _⟩;rw[eJ HX.out,aI,aI];exact ft o5 (λhm=>by have:=MU _ hm;simp at this;omega)
     case measure=>simp [intOf];omega
  ·obtain rfl:j=n:=dP;rw[aC ws]at oq;obtain⟨a0,a1,a2,a3,a4,a5,a6,a7⟩:=k3.c8;obtain⟨r0,r1,r2,r3,r4,r5,r6,r7⟩:=kR.c8;have zr:=λi=>kR.frozen i;have Tq:=zr 0;have zr1:=zr 1;have zr2:=zr 2;have zr3:=zr 3;have zr4:=zr 4;have zr5:=zr 5;have zr6:=zr 6;have zr7:=zr 7;have XB:w.heap.size<wr.heap.size:=dP;clear zr;go_wp2_with fail;refine bM (v:= .agg #[.int .i64 2,.slice Aq j cq,(),(),(),(),.int .i64 0,.int .i64 0]) (by simp [results,results43,go_sem,r0,r1,r2,r3,r4,r5,r6,r7,XB]) rfl ⟨_,Fq++([]++([]++([]++([]++[])))),rfl,?_,?_,?_⟩
   ·exact Gz
   ·simpa using qL.mono dP
   ·exact mg
def gI (frm tk:Int) (x:Item):Item:=if eI x=true\/frm=tk\/tk=2 then x else if frm=2 then sN (qq x) else if x.num=1 then sN [84,82,85,69] else sN [70,65,76,83,69]
def qw (k:Int) (x:Item):Vec:=⟨k,[x],[],[],[],[],0,0⟩
def conv (v:Vec) (k:Int):Vec:=if k=4 then⟨4,[],v.parts++v.items.map (qw v.kind),v.names,[],[],0,0⟩ else⟨k,v.items.map (gI v.kind k),[],v.names,[],[],0,0⟩
def SU (w:Vec):Vec:=if w.levels=[] then⟨w.kind,w.items,[],[],[],[],0,0⟩ else⟨3,w.items.map (λx=>if eI x then x else sN (ZT w.levels (x.num - 1).toNat)),[],[],[],[],0,0⟩
def Eh (levels:List Str) (y:Item):Item:=if eI y=true\/ix levels y.text 0<0 then⟨0,0,[]⟩ else l_ (ix levels y.text 0+1)
def eY {α:Type} (l:List α) (n:Nat) (z:α):List α:=l++List.replicate (n - l.length) z
def gZ (v:Vec):Vec:=if lR v.names then {v with names:=[]} else v
def kG (v:Vec):Vec × Str:=if isVec v=true then (v,[]) else (zeroV,E_)
section
variable {w0 w:World} {X:List Nat} {R:List As}
theorem Mem.vec8 {r:Vec} {cs:List Value} (M:Mem prog w0 X w (.ow r.toD 38 cs::R)):∃a0 a1 a2 a3 a4 a5 a6 a7,cs=[a0,a1,a2,a3,a4,a5,a6,a7]:=by obtain⟨_,_,_,_,_,_,_,_,_,_,_,_,_,_,_,h,_⟩:=M.openVec;exact⟨_,_,_,_,_,_,_,_,h⟩
theorem Mem.vecL {rv:Vec} {cs:List Value} (M:Mem prog w0 X w (.ow rv.toD 38 cs::R)):∃(Ai:Option Addr) (ci:Nat) (Ap:Option Addr) (cp:Nat) (An:Option Addr) (cn:Nat) (Ac:Option Addr) (cc:Nat) (Al:Option Addr) (cl:Nat),cs=[.int .i64 rv.kind,.slice Ai rv.items.length ci,.slice Ap rv.parts.length cp,.slice An rv.names.length cn,.slice Ac rv.cls.length cc,.slice Al rv.levels.length cl,.int .i64 rv.code,.int .i64 rv.env]:=by obtain⟨Ai,ci,Ap,cp,An,cn,Ac,cc,Al,cl,h,_⟩:=d_ (M.rp 0 rfl);exact⟨Ai,ci,Ap,cp,An,cn,Ac,cc,Al,cl,h⟩
theorem Mem.newTwoL {rv:Vec} {y:Value} {w':World} {e:Ending} (M:Mem prog w0 X w R) (hn:eH rv.toD 38 y w e w'):∃(Ai:Option Addr) (ci:Nat) (Ap:Option Addr) (cp:Nat) (An:Option Addr) (cn:Nat) (Ac:Option Addr) (cc:Nat) (Al:Option Addr) (cl:Nat),
 e= .returned (.tuple #[.agg #[rv.kind,.slice Ai rv.items.length ci,.slice Ap rv.parts.length cp,.slice An rv.names.length cn,.slice Ac rv.cls.length cc,.slice Al rv.levels.length cl,rv.code,rv.env],y])/\
 Mem prog w0 X w' (.ow rv.toD 38 [rv.kind,.slice Ai rv.items.length ci,.slice Ap rv.parts.length cp,.slice An rv.names.length cn,.slice Ac rv.cls.length cc,.slice Al rv.levels.length cl,rv.code,rv.env]::R):=by
 obtain⟨cs,F,rfl,ho,hf,hb⟩:=hn;have M':=M.gain ho hf hb;obtain⟨Ai,ci,Ap,cp,An,cn,Ac,cc,Al,cl,rfl⟩:=M'.vecL;exact⟨Ai,ci,Ap,cp,An,cn,Ac,cc,Al,cl,rfl,M'⟩
theorem Mem.zeroVec (M:Mem prog w0 X w R):Mem prog w0 X w (.ow zeroV.toD 38 [.int .i64 0,(),(),(),(),(),.int .i64 0,.int .i64 0]::R):=
 Mem.joinVec (v:=zeroV) (((((M.nil (t:=25) underlying25).nil (t:=25) underlying25).nil (t:=25) underlying25).nil (t:=36) underlying36).nil (t:=35) underlying35) le le le
theorem Th {r:Vec} {cs:List Value} (M:Mem prog w0 X w (.ow r.toD 38 cs::R)):Calls prog 154 #[av cs] w λe w'=>∃a0 a1 a2 a3 a4 a5 a6 a7,e= .returned (.agg #[a0,a1,a2,a3,a4,a5,a6,a7])/\Mem prog w0 X w' (.ow (gZ r).toD 38 [a0,a1,a2,a3,a4,a5,a6,a7]::R):=by
 have hr:=M.rp 0 rfl;obtain⟨Ai,ni,ci,Ap,np,cp,An,nn,cn,Ac,nc,cc,Al,nl,cl,rfl,wk,-,-,-,-,-,wc,we⟩:=fw hr;refine(I7 r Ai ni ci Ap np cp An nn cn Ac nc cc Al nl cl w hr).mono ?_;rintro e w' ⟨rfl,hb⟩;have M1:=M.next hb;cases he:lR r.names with
 |false=>exact⟨_,_,_,_,_,_,_,_,by rw[aH dQ],by rw[show gZ r=r by unfold gZ;rw[he];rfl];exact M1⟩
 |true=>
  obtain⟨_,_,_,_,_,_,_,_,_,_,_,_,_,_,_,hc,M2⟩:=M1.openVec;simp only[bF,bG,dy,cO]at hc;obtain⟨⟨rfl,rfl,rfl⟩,⟨rfl,rfl,rfl⟩,⟨rfl,rfl,rfl⟩,⟨rfl,rfl,rfl⟩,rfl,rfl,rfl⟩:=hc;refine⟨_,_,_,_,_,_,_,_,by rw[aN rfl],?_⟩;rw[show gZ r={r with names:=[]} by unfold gZ;rw[he];rfl];have M3:=((M2.pull 2 rfl).drop).nil (t:=25) underlying25;have M4:=(M3.pull 2 rfl).pull 2 rfl;exact Mem.joinVec (v:={r with names:=[]}) M4 wk wc we
theorem RZ {r rv:Vec} {rs:Str} {cs:List Value} (M:Mem prog w0 X w (.ow r.toD 38 cs::R)) (ga:bigV r) (he:kG r=(rv,rs)):Calls prog 161 #[av cs] w λe w'=>∃a0 a1 a2 a3 a4 a5 a6 a7,e= .returned (.tuple #[.agg #[a0,a1,a2,a3,a4,a5,a6,a7],sv rs])/\Mem prog w0 X w' (.ow rv.toD 38 [a0,a1,a2,a3,a4,a5,a6,a7]::R):=by
 obtain⟨a0,a1,a2,a3,a4,a5,a6,a7,rfl⟩:=M.vec8;refine(Ue r _ w (M.rp 0 rfl) ga).mono ?_;rintro e w' ⟨rfl,hb⟩;unfold kG at he;cases hv:isVec r with
 |true=>
  rw[hv,aN rfl]at he;injection he with e1 e2;subst e1 e2
  exact⟨_,_,_,_,_,_,_,_,rfl,M.next hb⟩
 |false=>
  rw[hv,aH dQ]at he;injection he with e1 e2;subst e1 e2
  exact⟨_,_,_,_,_,_,_,_,rfl,(M.next hb).drop.zeroVec⟩
theorem PJ {r rv:Vec} {rs:Str} {cs:List Value} (M:Mem prog w0 X w (.ow r.toD 38 cs::R)) (ga:bigV r) (he:kG r=(rv,rs)):Calls prog 124 #[av cs] w λe w'=>∃a0 a1 a2 a3 a4 a5 a6 a7,e= .returned (.tuple #[.agg #[a0,a1,a2,a3,a4,a5,a6,a7],sv rs])/\Mem prog w0 X w' (.ow rv.toD 38 [a0,a1,a2,a3,a4,a5,a6,a7]::R):=by
 obtain⟨a0,a1,a2,a3,a4,a5,a6,a7,rfl⟩:=M.vec8;refine(SJ r _ w (M.rp 0 rfl) ga).mono ?_;rintro e w' ⟨rfl,hb⟩;unfold kG at he;cases hv:isVec r with
 |true=>
  rw[hv,aN rfl]at he;injection he with e1 e2;subst e1 e2
  exact⟨_,_,_,_,_,_,_,_,rfl,M.next hb⟩
 |false=>
  rw[hv,aH dQ]at he;injection he with e1 e2;subst e1 e2
  exact⟨_,_,_,_,_,_,_,_,rfl,(M.next hb).drop.zeroVec⟩
theorem v9 {r rv:Vec} {cs:List Value} (M:Mem prog w0 X w (.ow r.toD 38 cs::R)) (he:gZ r=rv):Calls prog 154 #[av cs] w λe w'=>∃(Ai:Option Addr) (ci:Nat) (Ap:Option Addr) (cp:Nat) (An:Option Addr) (cn:Nat) (Ac:Option Addr) (cc:Nat) (Al:Option Addr) (cl:Nat),e= .returned (.agg #[rv.kind,.slice Ai rv.items.length ci,.slice Ap rv.parts.length cp,.slice An rv.names.length cn,.slice Ac rv.cls.length cc,.slice Al rv.levels.length cl,rv.code,rv.env])/\Mem prog w0 X w' (.ow rv.toD 38 [rv.kind,.slice Ai rv.items.length ci,.slice Ap rv.parts.length cp,.slice An rv.names.length cn,.slice Ac rv.cls.length cc,.slice Al rv.levels.length cl,rv.code,rv.env]::R):=by refine(Th M).mono ?_;rintro e w' ⟨a0,a1,a2,a3,a4,a5,a6,a7,rfl,M'⟩;rw[he]at M';obtain⟨Ai,ci,Ap,cp,An,cn,Ac,cc,Al,cl,h⟩:=M'.vecL;rw[h]at M';simp only[bF,cO]at h;obtain⟨rfl,rfl,rfl,rfl,rfl,rfl,rfl,rfl⟩:=h;exact⟨Ai,ci,Ap,cp,An,cn,Ac,cc,Al,cl,rfl,M'⟩
theorem zA {r rv:Vec} {rs:Str} {cs:List Value} (M:Mem prog w0 X w (.ow r.toD 38 cs::R)) (ga:bigV r) (he:kG r=(rv,rs)):Calls prog 161 #[av cs] w λe w'=>∃(Ai:Option Addr) (ci:Nat) (Ap:Option Addr) (cp:Nat) (An:Option Addr) (cn:Nat) (Ac:Option Addr) (cc:Nat) (Al:Option Addr) (cl:Nat),e= .returned (.tuple #[.agg #[rv.kind,.slice Ai rv.items.length ci,.slice Ap rv.parts.length cp,.slice An rv.names.length cn,.slice Ac rv.cls.length cc,.slice Al rv.levels.length cl,rv.code,rv.env],sv rs])/\Mem prog w0 X w' (.ow rv.toD 38 [rv.kind,.slice Ai rv.items.length ci,.slice Ap rv.parts.length cp,.slice An rv.names.length cn,.slice Ac rv.cls.length cc,.slice Al rv.levels.length cl,rv.code,rv.env]::R):=by refine(RZ M ga he).mono ?_;rintro e w' ⟨a0,a1,a2,a3,a4,a5,a6,a7,rfl,M'⟩;obtain⟨Ai,ci,Ap,cp,An,cn,Ac,cc,Al,cl,h⟩:=M'.vecL;rw[h]at M';simp only[bF,cO]at h;obtain⟨rfl,rfl,rfl,rfl,rfl,rfl,rfl,rfl⟩:=h;exact⟨Ai,ci,Ap,cp,An,cn,Ac,cc,Al,cl,rfl,M'⟩
theorem wU {r rv:Vec} {rs:Str} {cs:List Value} (M:Mem prog w0 X w (.ow r.toD 38 cs::R)) (ga:bigV r) (he:kG r=(rv,rs)):Calls prog 124 #[av cs] w λe w'=>∃(Ai:Option Addr) (ci:Nat) (Ap:Option Addr) (cp:Nat) (An:Option Addr) (cn:Nat) (Ac:Option Addr) (cc:Nat) (Al:Option Addr) (cl:Nat),e= .returned (.tuple #[.agg #[rv.kind,.slice Ai rv.items.length ci,.slice Ap rv.parts.length cp,.slice An rv.names.length cn,.slice Ac rv.cls.length cc,.slice Al rv.levels.length cl,rv.code,rv.env],sv rs])/\Mem prog w0 X w' (.ow rv.toD 38 [rv.kind,.slice Ai rv.items.length ci,.slice Ap rv.parts.length cp,.slice An rv.names.length cn,.slice Ac rv.cls.length cc,.slice Al rv.levels.length cl,rv.code,rv.env]::R):=by refine(PJ M ga he).mono ?_;rintro e w' ⟨a0,a1,a2,a3,a4,a5,a6,a7,rfl,M'⟩;obtain⟨Ai,ci,Ap,cp,An,cn,Ac,cc,Al,cl,h⟩:=M'.vecL;rw[h]at M';simp only[bF,cO]at h;obtain⟨rfl,rfl,rfl,rfl,rfl,rfl,rfl,rfl⟩:=h;exact⟨Ai,ci,Ap,cp,An,cn,Ac,cc,Al,cl,rfl,M'⟩
end
section
variable {w0 w:World} {X:List Nat} {R:List As} {g n c k:Nat}
theorem Mem.itemAt {l:List Item} {x:Item} (M:Mem prog w0 X w (.ow (.sl (l.map Item.toD)) 35 [.slice (some ⟨g,0,none⟩) n c]::R)) (hk:l[k]?=some x):
 w.cell? ⟨g,k*3,none⟩=some (.int .i64 x.num)/\w.cell? ⟨g,k*3+1,none⟩=some (.int .i64 x.den)/\w.cell? ⟨g,k*3+2,none⟩=some (sv x.text):=by
 have hr:=M.rp 0 rfl;have hn:=(ef hr).1;rw[au]at hn;obtain⟨b,o,z,e,-,hz,-,c0,c1,c2⟩:=pK (k:=k) hr sa;injection e with e;injection e with e1 e2;subst e1 e2
 rw[hk]at hz;injection hz with hz;subst hz
 rw[bI]at c0 c1 c2;exact⟨c0,c1,c2⟩
theorem Mem.setItemG {l:List Item} {x y:Item} (M:Mem prog w0 X w (.ow (.sl (l.map Item.toD)) 35 [.slice (some ⟨g,0,none⟩) n c]::R)) (hk:l[k]?=some x) (hy:itOK y):
 (∃u,w.cell? ⟨g,k*3,none⟩=some u)/\(∃u,w.cell? ⟨g,k*3+1,none⟩=some u)/\(∃u,w.cell? ⟨g,k*3+2,none⟩=some u)/\(∀j,w.frozen? ⟨g,j,none⟩=false)/\g<w.heap.size/\
  Mem prog w0 X (((w.setCell ⟨g,k*3,none⟩ (.int .i64 y.num)).setCell ⟨g,k*3+1,none⟩ (.int .i64 y.den)).setCell ⟨g,k*3+2,none⟩ (sv y.text)) (.ow (.sl ((l.set k y).map Item.toD)) 35 [.slice (some ⟨g,0,none⟩) n c]::R):=by
 obtain⟨g',e,h⟩:=M.setItem hk hy;injection e with e;injection e with e;subst e
 exact h
theorem Mem.intAt {l:List Int} {x:Int} (M:Mem prog w0 X w (.ow (.sl (l.map (.i .i64))) 26 [.slice (some ⟨g,0,none⟩) n c]::R)) (hk:l[k]?=some x):w.cell? ⟨g,k,none⟩=some (.int .i64 x)/\g<w.heap.size:=by
 have hr:=M.rp 0 rfl;have hn:=(ef hr).1;rw[au]at hn;obtain⟨_,_,_,he,-,-,hR,-⟩:=(qy _ _ _ _).1 hr;injection he with he;injection he with e1 e2 e3;subst e1 e2 e3
 obtain⟨b,o,z,e,hb,hz,c0⟩:=hR.atI (k:=k) sa;injection e with e;injection e with e1 e2;subst e1 e2
 rw[hk]at hz;injection hz with hz;subst hz
 rw[bI]at c0;exact⟨c0,hb⟩
theorem Mem.strAt {l:List Str} {x:Str} (M:Mem prog w0 X w (.ow (.sl (l.map .s)) 25 [.slice (some ⟨g,0,none⟩) n c]::R)) (hk:l[k]?=some x):w.cell? ⟨g,k,none⟩=some (sv x):=by
 have hr:=M.rp 0 rfl;have hn:=(ef hr).1;rw[au]at hn;obtain⟨_,_,_,he,-,-,hR,-⟩:=(ls _ _ _ _).1 hr;injection he with he;injection he with e1 e2 e3;subst e1 e2 e3
 obtain⟨b,o,z,e,-,hz,c0⟩:=hR.atS (k:=k) sa;injection e with e;injection e with e1 e2;subst e1 e2
 rw[hk]at hz;injection hz with hz;subst hz
 rwa [bI]at c0
theorem Mem.setStrG {l:List Str} {x y:Str} (M:Mem prog w0 X w (.ow (.sl (l.map .s)) 25 [.slice (some ⟨g,0,none⟩) n c]::R)) (hk:l[k]?=some x) (hy:y.length<=maxLen):
 (∃u,w.cell? ⟨g,k,none⟩=some u)/\(∀j,w.frozen? ⟨g,j,none⟩=false)/\g<w.heap.size/\
  Mem prog w0 X (w.setCell ⟨g,k,none⟩ (sv y)) (.ow (.sl ((l.set k y).map .s)) 25 [.slice (some ⟨g,0,none⟩) n c]::R):=by
 obtain⟨g',e,h⟩:=M.setStr hk hy;injection e with e;injection e with e;subst e
 exact h
end
theorem jn {l:List α} {z:α}:eY l l.length z=l:=by simp [eY]
theorem pD {l:List α} {z:α} (h:l.length<=m):(eY l m z).length=m:=by simp [eY];omega
theorem iM {l:List α} {z:α} (h:l.length<=m):eY l (m+1) z=eY l m z++[z]:=by unfold eY;rw[show m+1 - l.length=(m - l.length)+1 by omega,List.replicate_succ',aS]
theorem pE {l:List α} {z:α} (h:m<=l.length):eY l m z=l:=by simp [eY,show m - l.length=0 by omega]
def gS (l:List Str) (m:Nat):List Str:=if l=[] then[] else eY l m []
theorem sQ (h:l=[]\/l.length=m):gS l m=l:=by
 unfold gS;rcases h with rfl|rfl
 ·simp
 ·rw[jn];split<;>simp_all
theorem wN (h:l=[]\/l.length<=m) (hp:0<(gS l m).length):gS l (m+1)=gS l m++[[]]:=by
 unfold gS at hp ⊢;by_cases e:l=[]
 ·simp [e]at hp
 ·rw[aH e,aH e,iM (h.resolve_left e)]
theorem wM (hp:(gS l m).length=0):gS l n=gS l m:=by
 unfold gS at hp ⊢;by_cases e:l=[]
 ·simp [e]
 ·rw[aH e]at hp;simp only[eY,aY]at hp;exact absurd (aR.1 dP) e
theorem rR (h:l=[]\/l.length=n) (hm:m<=40) (hn:n<=40:=by omega):(gS l m).length<=40:=by
 unfold gS;split
 ·simp
 ·rename_i jC
  have:=h.resolve_left jC;simp only[eY,aY,List.length_replicate];omega
theorem Mem.lit1 {e:TypeId} {d:D} (M:Mem P w0 X w (.bk g e cs:: .ow d e cs::R)) (ht:P.underlying t=some (.slice e)) (hs:P.cellsOf e=cs.length):
 Mem P w0 X w (.ow (.sl [d]) t [.slice (some ⟨g,0,none⟩) 1 1]::R):=
 Mem.as (C:=[_,_]) (C':=[_]) M λF hF _=>by obtain⟨F1,_,rfl,⟨rfl,hb⟩,F2,_,rfl,h2,rfl⟩:=hF;refine iQ.2 ?_;show own P w (.sl [d]) t _ _;rw[own];refine⟨e,_,1,1,cs.length,[⟨cs,rfl⟩],F2,ht,hs,rfl,by decide,⟨rfl,by simp [Row.v],.inr ⟨g,1,cs.toArray,rfl,dj _,hb,af _,by decide,by simp,by simp [Row.v]⟩⟩,by simp [oz],?_⟩;rw[br,bL,iv];exact⟨F2,[],cs,[],by simp,rfl,h2,by rw[iv];exact⟨rfl,rfl⟩⟩
theorem Mem.open1 {c:Nat}{e:TypeId} {d:D} (M:Mem P w0 X w (.ow (.sl [d]) t [.slice (some ⟨g,0,none⟩) n c]::R)) (ht:P.underlying t=some (.slice e)):
 ∃cs post,Mem P w0 X w (.bk g e (cs++post):: .ow d e cs::R):=by
 obtain⟨F,h1,h2,h3⟩:=Mem.split [_] M;obtain⟨g',Fa,Fd,Fb,cs,pre,post,he,rfl,o1,o2,o3,-⟩:=ta (k:=0) ht (iQ.1 h1) rfl;injection he with he;injection he with he;subst he
 obtain rfl:pre=[]:=aR.1 (by simpa using o2);refine⟨cs,post,h3 w [_,_] (g::Fd) (fJ.2 ⟨[g],Fd,rfl,⟨rfl,o3⟩,iQ.2 o1⟩) ?_ (λx hx=> .inl wt) Mod.refl⟩;have q:=aQ.1 h2;simp only[aG,not_or]at q;exact aQ.2 ⟨q.1.2.1,(aE.1 (aE.1 q.2).2.1).1⟩
theorem Mem.setVecG {c k:Nat} {l:List Vec} {x y:Vec} {a0 a1 a2 a3 a4 a5 a6 a7:Value} (M:Mem prog w0 X w (.ow (.sl (l.map Vec.toD)) 36 [.slice (some ⟨g,0,none⟩) n c]:: .ow y.toD 38 [a0,a1,a2,a3,a4,a5,a6,a7]::R)) (hk:l[k]?=some x):
 (∃u,w.cell? ⟨g,k*8,none⟩=some u)/\(∀j,j<8->∃u,w.cell? ⟨g,k*8+j,none⟩=some u)/\(∀j,w.frozen? ⟨g,j,none⟩=false)/\g<w.heap.size/\
  Mem prog w0 X ((((((((w.setCell ⟨g,k*8,none⟩ a0).setCell ⟨g,k*8+1,none⟩ a1).setCell ⟨g,k*8+2,none⟩ a2).setCell ⟨g,k*8+3,none⟩ a3).setCell ⟨g,k*8+4,none⟩ a4).setCell ⟨g,k*8+5,none⟩ a5).setCell ⟨g,k*8+6,none⟩ a6).setCell ⟨g,k*8+7,none⟩ a7) (.ow (.sl ((l.set k y).map Vec.toD)) 36 [.slice (some ⟨g,0,none⟩) n c]::R):=by
 obtain⟨g',e,-,h2,h3,h4,h5⟩:=M.setVec hk;injection e with e;injection e with e;subst e
 exact⟨h2 0 dQ,h2,h3,h4,h5⟩
theorem Mem.focus (C:List As) (M:Mem P w0 X w (C++R)):∃F,Mem P w F w C/\∀(w':World) (C':List As),Mem P w F w' C'->Mem P w0 X w' (C'++R):=by obtain⟨F,h1,h2,h3⟩:=Mem.split C M;refine⟨F,⟨Mod.refl,F,h1,h2,λg hg=> .inl hg⟩,λw' C' hm=>?_⟩;obtain⟨k1,G,k2,k3,k4⟩:=hm;exact h3 w' C' G k2 k3 k4 k1
theorem JE (h1:1<=y) (h2:y<=40):nZ (l_ y)=true:=by unfold nZ l_;simp;omega
theorem DX (h1:1<=y) (h2:y<=40):isVec (nU [y])=true:=by
 have hi:=JE h1 h2;have hs:h_ (nU [y])=true:=by simp [h_,CO,IY,P6,wZ,SB,IZ,nU,lenV,mF,vE,atomK,itemOK,hi]
 unfold isVec;rw[show okD 3 (nU [y])=true by rw[okD,hs];rfl];simp [nU,jF,ik,lenV]
theorem Jh:bigV (nU [y]):=by unfold bigV;rw[go];simp [nU,szD,gv,l_,Item.toD]
theorem kV {B:Nat} (h:rep w B (nU [y]).toD cs):∃(sb so c1:Nat) (A2:Option Addr) (c2:Nat) (A3:Option Addr) (c3:Nat) (A4:Option Addr) (c4:Nat) (A5:Option Addr) (c5:Nat),
 cs=[.int .i64 2,.slice (some ⟨sb,so,none⟩) 1 c1,.slice A2 0 c2,.slice A3 0 c3,.slice A4 0 c4,.slice A5 0 c5,.int .i64 0,.int .i64 0]/\sb<B/\w.cell? ⟨sb,so,none⟩=some (.int .i64 y)/\w.cell? ⟨sb,so+1,none⟩=some (.int .i64 1)/\w.cell? ⟨sb,so+2,none⟩=some (sv []):=by
 obtain⟨Ai,ci,Ap,cp,An,cn,Ac,cc,Al,cl,rfl,wk,ri,rp,rn,rc,rl,wc,we⟩:=d_ h;have ri:rep w B (.sl ([l_ y].map Item.toD)) [.slice Ai 1 ci]:=ri;obtain⟨b,o,x,rfl,hb,hx,-,e0,e1,e2⟩:=pK ri (k:=0) dQ;obtain rfl:l_ y=x:=oh;simp only[dx,cF]at e0 e1 e2;exact⟨b,o,ci,Ap,cp,An,cn,Ac,cc,Al,cl,rfl,hb,e0,e1,e2⟩
def jq (l:List Int) (p:Str) (w:World) (e:Ending) (w':World):Prop:=∃(A:Option Addr) (c:Nat) (F:List Nat),e= .returned (.tuple #[.slice A l.length c,sv p])/\own prog w' (.sl (l.map (D.i .i64))) 26 F [.slice A l.length c]/\Fresh w.heap.size F/\Below w.heap.size w w'
theorem Mem.newPos {w':World} {e:Ending} {l:List Int} (M:Mem prog w0 X w R) (hn:jq l p w e w'):∃(A:Option Addr) (c:Nat),e= .returned (.tuple #[.slice A l.length c,sv p])/\Mem prog w0 X w' (.ow (.sl (l.map (D.i .i64))) 26 [.slice A l.length c]::R):=by obtain⟨A,c,F,rfl,ho,hf,hb⟩:=hn;exact⟨A,c,rfl,M.gain ho hf hb⟩
theorem Mem.retPos {l:List Int} {A:Option Addr} {c:Nat} (h:Mem prog w0 [] w (.ow (.sl (l.map (D.i .i64))) 26 [.slice A l.length c]::R)):jq l p w0 (.returned (.tuple #[.slice A l.length c,sv p])) w:=by obtain⟨F,h1,h2,h3⟩:=h.fin;exact⟨A,c,F,rfl,h1,h2,h3⟩
section
variable {w0 w:World} {X:List Nat} {R:List As} {f:Nat} {args:Array Value} {Ψ:Ending->World->Prop} {v:Vec} {y:Value}
theorem Ik {α:Type} {g:α->D} {l:List α} {t:TypeId} (h:Calls prog f args w (oK (l.map g) t w)) (M:Mem prog w0 X w R) (hK:∀(x:Gh) w',Mem prog w0 X w' (.ow (.sl (l.map g)) t [.slice x.a l.length x.c]::R)->Ψ (.returned (.slice x.a l.length x.c)) w'):Calls prog f args w Ψ:=
 h.mono λe w' hn=>by obtain⟨A',c',rfl,M'⟩:=M.newMap hn;exact hK (Ov A' c') w' M'
theorem Xe (h:Calls prog f args w (gM v.toD 38 w)) (M:Mem prog w0 X w R) (hK:∀(x:Gh) w',Mem prog w0 X w' (.ow (.sl (v.items.map Item.toD)) 35 [.slice (x.A 1) v.items.length (x.C 1)]:: .ow (.sl (v.parts.map Vec.toD)) 36 [.slice (x.A 2) v.parts.length (x.C 2)]:: .ow (.sl (v.names.map .s)) 25 [.slice (x.A 3) v.names.length (x.C 3)]:: .ow (.sl (v.cls.map .s)) 25 [.slice (x.A 4) v.cls.length (x.C 4)]:: .ow (.sl (v.levels.map .s)) 25 [.slice (x.A 5) v.levels.length (x.C 5)]::R)->Ψ (.returned (.agg #[v.kind,.slice (x.A 1) v.items.length (x.C 1),.slice (x.A 2) v.parts.length (x.C 2),.slice (x.A 3) v.names.length (x.C 3),.slice (x.A 4) v.cls.length (x.C 4),.slice (x.A 5) v.levels.length (x.C 5),v.code,v.env])) w'):Calls prog f args w Ψ:=
 h.mono λe w' hn=>by obtain⟨Ai,ci,Ap,cp,An,cn,Ac,cc,Al,cl,rfl,M'⟩:=M.newVec hn;exact hK (Ow [(none,0),(Ai,ci),(Ap,cp),(An,cn),(Ac,cc),(Al,cl)]) w' M'
theorem qS (h:Calls prog f args w (eH v.toD 38 y w)) (M:Mem prog w0 X w R) (hK:∀(x:Gh) w',Mem prog w0 X w' (.ow (.sl (v.items.map Item.toD)) 35 [.slice (x.A 1) v.items.length (x.C 1)]:: .ow (.sl (v.parts.map Vec.toD)) 36 [.slice (x.A 2) v.parts.length (x.C 2)]:: .ow (.sl (v.names.map .s)) 25 [.slice (x.A 3) v.names.length (x.C 3)]:: .ow (.sl (v.cls.map .s)) 25 [.slice (x.A 4) v.cls.length (x.C 4)]:: .ow (.sl (v.levels.map .s)) 25 [.slice (x.A 5) v.levels.length (x.C 5)]::R)->Ψ (.returned (.tuple #[.agg #[v.kind,.slice (x.A 1) v.items.length (x.C 1),.slice (x.A 2) v.parts.length (x.C 2),.slice (x.A 3) v.names.length (x.C 3),.slice (x.A 4) v.cls.length (x.C 4),.slice (x.A 5) v.levels.length (x.C 5),v.code,v.env],y])) w'):Calls prog f args w Ψ:=
 h.mono λe w' hn=>by obtain⟨Ai,ci,Ap,cp,An,cn,Ac,cc,Al,cl,rfl,M'⟩:=M.newVecTwo hn;exact hK (Ow [(none,0),(Ai,ci),(Ap,cp),(An,cn),(Ac,cc),(Al,cl)]) w' M'
theorem tI (h:Calls prog f args w (gM v.toD 38 w)) (M:Mem prog w0 X w R) (hK:∀(x:Gh) w',Mem prog w0 X w' (.ow v.toD 38 [v.kind,.slice (x.A 1) v.items.length (x.C 1),.slice (x.A 2) v.parts.length (x.C 2),.slice (x.A 3) v.names.length (x.C 3),.slice (x.A 4) v.cls.length (x.C 4),.slice (x.A 5) v.levels.length (x.C 5),v.code,v.env]::R)->Ψ (.returned (.agg #[v.kind,.slice (x.A 1) v.items.length (x.C 1),.slice (x.A 2) v.parts.length (x.C 2),.slice (x.A 3) v.names.length (x.C 3),.slice (x.A 4) v.cls.length (x.C 4),.slice (x.A 5) v.levels.length (x.C 5),v.code,v.env])) w'):Calls prog f args w Ψ:=
 h.mono λe w' hn=>by obtain⟨cs,rfl,M'⟩:=M.newSt hn;obtain⟨Ai,ci,Ap,cp,An,cn,Ac,cc,Al,cl,rfl⟩:=M'.vecL;exact hK (Ow [(none,0),(Ai,ci),(Ap,cp),(An,cn),(Ac,cc),(Al,cl)]) w' M'
theorem AH (h:Calls prog f args w (eH v.toD 38 y w)) (M:Mem prog w0 X w R) (hK:∀(x:Gh) w',Mem prog w0 X w' (.ow v.toD 38 [v.kind,.slice (x.A 1) v.items.length (x.C 1),.slice (x.A 2) v.parts.length (x.C 2),.slice (x.A 3) v.names.length (x.C 3),.slice (x.A 4) v.cls.length (x.C 4),.slice (x.A 5) v.levels.length (x.C 5),v.code,v.env]::R)->Ψ (.returned (.tuple #[.agg #[v.kind,.slice (x.A 1) v.items.length (x.C 1),.slice (x.A 2) v.parts.length (x.C 2),.slice (x.A 3) v.names.length (x.C 3),.slice (x.A 4) v.cls.length (x.C 4),.slice (x.A 5) v.levels.length (x.C 5),v.code,v.env],y])) w'):Calls prog f args w Ψ:=
 h.mono λe w' hn=>by obtain⟨Ai,ci,Ap,cp,An,cn,Ac,cc,Al,cl,rfl,M'⟩:=M.newTwoL hn;exact hK (Ow [(none,0),(Ai,ci),(Ap,cp),(An,cn),(Ac,cc),(Al,cl)]) w' M'
theorem Mw {l:List Int} {p:Str} (h:Calls prog f args w (jq l p w)) (M:Mem prog w0 X w R) (hK:∀(x:Gh) w',Mem prog w0 X w' (.ow (.sl (l.map (.i .i64))) 26 [.slice x.a l.length x.c]::R)->Ψ (.returned (.tuple #[.slice x.a l.length x.c,sv p])) w'):Calls prog f args w Ψ:=
 h.mono λe w' hn=>by obtain⟨A',c',rfl,M'⟩:=M.newPos hn;exact hK (Ov A' c') w' M'
theorem Wt (h:Calls prog f args w λe w'=>∃(Ai:Option Addr) (ci:Nat) (Ap:Option Addr) (cp:Nat) (An:Option Addr) (cn:Nat) (Ac:Option Addr) (cc:Nat) (Al:Option Addr) (cl:Nat),e= .returned (.agg #[v.kind,.slice Ai v.items.length ci,.slice Ap v.parts.length cp,.slice An v.names.length cn,.slice Ac v.cls.length cc,.slice Al v.levels.length cl,v.code,v.env])/\Mem prog w0 X w' (.ow v.toD 38 [v.kind,.slice Ai v.items.length ci,.slice Ap v.parts.length cp,.slice An v.names.length cn,.slice Ac v.cls.length cc,.slice Al v.levels.length cl,v.code,v.env]::R)) (hK:∀(x:Gh) w',Mem prog w0 X w' (.ow v.toD 38 [v.kind,.slice (x.A 1) v.items.length (x.C 1),.slice (x.A 2) v.parts.length (x.C 2),.slice (x.A 3) v.names.length (x.C 3),.slice (x.A 4) v.cls.length (x.C 4),.slice (x.A 5) v.levels.length (x.C 5),v.code,v.env]::R)->Ψ (.returned (.agg #[v.kind,.slice (x.A 1) v.items.length (x.C 1),.slice (x.A 2) v.parts.length (x.C 2),.slice (x.A 3) v.names.length (x.C 3),.slice (x.A 4) v.cls.length (x.C 4),.slice (x.A 5) v.levels.length (x.C 5),v.code,v.env])) w'):Calls prog f args w Ψ:=
 h.mono λe w' hn=>by obtain⟨Ai,ci,Ap,cp,An,cn,Ac,cc,Al,cl,rfl,M'⟩:=hn;exact hK (Ow [(none,0),(Ai,ci),(Ap,cp),(An,cn),(Ac,cc),(Al,cl)]) w' M'
theorem Mv (h:Calls prog f args w λe w'=>∃(Ai:Option Addr) (ci:Nat) (Ap:Option Addr) (cp:Nat) (An:Option Addr) (cn:Nat) (Ac:Option Addr) (cc:Nat) (Al:Option Addr) (cl:Nat),e= .returned (.tuple #[.agg #[v.kind,.slice Ai v.items.length ci,.slice Ap v.parts.length cp,.slice An v.names.length cn,.slice Ac v.cls.length cc,.slice Al v.levels.length cl,v.code,v.env],y])/\Mem prog w0 X w' (.ow v.toD 38 [v.kind,.slice Ai v.items.length ci,.slice Ap v.parts.length cp,.slice An v.names.length cn,.slice Ac v.cls.length cc,.slice Al v.levels.length cl,v.code,v.env]::R)) (hK:∀(x:Gh) w',Mem prog w0 X w' (.ow v.toD 38 [v.kind,.slice (x.A 1) v.items.length (x.C 1),.slice (x.A 2) v.parts.length (x.C 2),.slice (x.A 3) v.names.length (x.C 3),.slice (x.A 4) v.cls.length (x.C 4),.slice (x.A 5) v.levels.length (x.C 5),v.code,v.env]::R)->Ψ (.returned (.tuple #[.agg #[v.kind,.slice (x.A 1) v.items.length (x.C 1),.slice (x.A 2) v.parts.length (x.C 2),.slice (x.A 3) v.names.length (x.C 3),.slice (x.A 4) v.cls.length (x.C 4),.slice (x.A 5) v.levels.length (x.C 5),v.code,v.env],y])) w'):Calls prog f args w Ψ:=
 h.mono λe w' hn=>by obtain⟨Ai,ci,Ap,cp,An,cn,Ac,cc,Al,cl,rfl,M'⟩:=hn;exact hK (Ow [(none,0),(Ai,ci),(Ap,cp),(An,cn),(Ac,cc),(Al,cl)]) w' M'
end
section
variable {P:Program} {w0 w:World} {X:List Nat} {R:List As} {t e:TypeId}
theorem zX:∀{a b:List D} {F:List Nat} {css:List (List Value)},iv P w (a++b) e F css↔∃F1 F2 c1 c2,F=F1++F2/\css=c1++c2/\iv P w a e F1 c1/\iv P w b e F2 c2
 |[],b,F,css=>by
  constructor
  ·intro h;exact⟨[],F,[],css,rfl,rfl,by rw[iv];exact⟨rfl,rfl⟩,h⟩
  ·rintro⟨F1,F2,c1,c2,rfl,rfl,h1,h2⟩;rw[iv]at h1;obtain⟨rfl,rfl⟩:=h1;exact h2
 |x::t,b,F,css=>by
  rw[cK,iv];constructor
  ·rintro⟨F1,F2,c1,c2,rfl,rfl,h1,h2⟩;obtain⟨G1,G2,d1,d2,rfl,rfl,h3,h4⟩:=zX.1 h2;exact⟨F1++G1,G2,c1::d1,d2,by simp,rfl,by rw[iv];exact⟨F1,G1,c1,d1,rfl,rfl,h1,h3⟩,h4⟩
  ·rintro⟨F1,F2,c1,c2,rfl,rfl,h1,h2⟩;rw[iv]at h1;obtain⟨G1,G2,d1,d2,rfl,rfl,h3,h4⟩:=h1;exact⟨G1,G2++F2,d1,d2++c2,by simp,rfl,h3,zX.2 ⟨G2,F2,d2,c2,rfl,rfl,h4,h2⟩⟩
theorem Mem.hole {g n c k s:Nat} {xs:List D} {d:D} (M:Mem P w0 X w (.ow (.sl xs) t [.slice (some ⟨g,0,none⟩) n c]::R)) (ht:P.underlying t=some (.slice e)) (hs:P.cellsOf e=s) (hk:xs[k]?=some d):
 ∃cs pre post ca cb,pre.length=k*s/\cs.length=s/\n=xs.length/\Mem P w0 X w (.bk g e (pre++(cs++post)):: .ow d e cs:: .oa (xs.take k) e ca:: .oa (xs.drop (k+1)) e cb::R)/\
  ∀(Y4 w':World) (X':List Nat) (R':List As) (d':D) (cs':List Value),cs'.length=s->Mem P Y4 X' w' (.bk g e (pre++(cs'++post)):: .ow d' e cs':: .oa (xs.take k) e ca:: .oa (xs.drop (k+1)) e cb::R')->
   Mem P Y4 X' w' (.ow (.sl (xs.set k d')) t [.slice (some ⟨g,0,none⟩) n c]::R'):=by
 have Ch:k<xs.length:=(ay.1 hk).1;have ex:∀d',xs.set k d'=xs.take k++(d'::xs.drop (k+1)):=λd'=>(List.set_eq_take_append_cons_drop ..).trans (by rw[aN Ch]);have ex0:xs=xs.take k++(d::xs.drop (k+1)):=by
  have h1:xs[k]=d:=by have:=aw Ch;rw[hk]at this;injection this with this;exact this.symm
  rw[<-h1,<-cR Ch,cA]
 obtain⟨F,hS,hF,h3⟩:=Mem.split [_] M;have h:=iQ.1 hS;change own P w (.sl xs) t F _ at h;rw[own]at h;obtain⟨e',A',n',c',s',fB,F2,h1,h2,h3',hm,h4,rfl,h6⟩:=h;obtain rfl:e=e':=by rw[ht]at h1;injection h1 with h1;injection h1
 obtain rfl:s=s':=hs.symm.trans h2;injection h3' with h3';injection h3' with e1 e2 e3;subst e1 e2 e3
 have gK:=zY h6;rw[au]at gK;have hn:=h4.1;rcases h4.2.2 with ⟨h0,h00⟩|⟨g',cap,pq,h0,hg,hh,hc,hmm,hz,hr⟩
 ·cases h0
 injection h0 with h0 _ h01;injection h0 with h0;injection h0 with h0;subst h0 h01;have WA:k<fB.length:=dP;have er:∀r',fB.set k r'=fB.take k++(r'::fB.drop (k+1)):=λr'=>(List.set_eq_take_append_cons_drop ..).trans (by rw[aN WA]);have er0:fB=fB.take k++(fB[k]::fB.drop (k+1)):=by rw[<-cR WA,cA]
 have h6':=h6;rw[ex0,er0,aI,br]at h6';obtain⟨Fa,Fz,ca,cz,rfl,ec,ha,hz6⟩:=zX.1 h6';rw[iv]at hz6;obtain⟨Fd,Fb,cd,cb,rfl,rfl,hd,hb⟩:=hz6;have hla:=zY ha;have hlk:(xs.take k).length=k:=sc;have hlr:((fB.take k).map Row.v).length=k:=by rw[au,de];omega
 obtain⟨rfl,ec2⟩:=List.append_inj ec dP;injection ec2 with ec2 ec3;subst ec2 ec3;have lp:((fB.take k).flatMap Row.v).length=k*s:=by rw[gN Row.len,de];congr 1;omega
 have adl:pq.toList=(fB.take k).flatMap Row.v++(fB[k].v++((fB.drop (k+1)).flatMap Row.v++pq.toList.drop (n*s))):=by
  have h9:=cA (n*s) pq.toList;have h10:fB.flatMap Row.v=(fB.take k).flatMap Row.v++(fB[k].v++(fB.drop (k+1)).flatMap Row.v):=by
   conv=>lhs;rw[er0]
   rw[cj,cB]
  rw[hr,h10]at h9;refine h9.symm.trans ?_;simp only[aS]
 refine⟨fB[k].v,(fB.take k).flatMap Row.v,(fB.drop (k+1)).flatMap Row.v++pq.toList.drop (n*s),(fB.take k).map Row.v,(fB.drop (k+1)).map Row.v,lp,Row.len _,by omega,?_,?_⟩
 ·have hB:Blk w g e ((fB.take k).flatMap Row.v++(fB[k].v++((fB.drop (k+1)).flatMap Row.v++pq.toList.drop (n*s)))):=by unfold Blk;rw[<-adl];exact hh
  have ZD:(g::(Fd++(Fa++(Fb++[])))).Perm (oz (some ⟨g,0,none⟩)++(Fa++(Fd++Fb))):=by simp only[oz,bP,List.singleton_append];refine List.Perm.cons _ ?_;rw[<-aS,<-aS];exact List.perm_append_comm.append_right _
  refine h3 w [_,_,_,_] (g::(Fd++(Fa++(Fb++[])))) (fJ.2 ⟨[g],_,rfl,⟨rfl,hB⟩,fJ.2 ⟨Fd,_,rfl,hd,fJ.2 ⟨Fa,_,rfl,ha,fJ.2 ⟨Fb,_,rfl,hb,rfl⟩⟩⟩⟩) ?_ (λx hx=> .inl (ZD.mem_iff.1 hx)) Mod.refl;exact ZD.nodup_iff.2 hF
 ·intro Y4 w' X' R' d' cs' JC M';have M2:=M'.perm (M:=_::_::_::_::R') ((List.Perm.swap _ _ _).cons _);refine Mem.as (C:=[_,_,_,_]) (C':=[_]) M2 λG hG _=>?_;obtain⟨G1,_,rfl,⟨rfl,hB⟩,G2,_,rfl,q2,G3,_,rfl,q3,G4,_,rfl,q4,rfl⟩:=hG;refine iQ.2 ?_;show own P w' (.sl (xs.set k d')) t _ _;rw[own];have e5:(fB.set k ⟨cs',JC⟩).map Row.v=(fB.take k).map Row.v++(cs'::(fB.drop (k+1)).map Row.v):=by rw[er,aI,br]
  have e6:(fB.set k ⟨cs',JC⟩).flatMap Row.v=(fB.take k).flatMap Row.v++(cs'++(fB.drop (k+1)).flatMap Row.v):=by rw[er,cj,cB]
  refine⟨e,_,n,c,s,fB.set k ⟨cs',JC⟩,G2++(G3++G4),ht,hs,rfl,hm,⟨by rw[da];exact hn,by rw[gN Row.len,da,hn],.inr ⟨g,c,((fB.take k).flatMap Row.v++(cs'++((fB.drop (k+1)).flatMap Row.v++pq.toList.drop (n*s)))).toArray,rfl,dj _,hB,hc,hmm,?_,?_⟩⟩,by simp [oz],?_⟩
  ·have h7:pq.toList.length=c*s:=by rw[Array.length_toList];exact hz
   rw[adl]at h7;have:fB[k].v.length=s:=Row.len _;simp only[List.size_toArray,aY]at h7 ⊢;omega
  ·exact GO
  ·rw[e5,ex];exact zX.2 ⟨G2,G3++G4,_,_,rfl,rfl,q2,by rw[iv];exact⟨G3,G4,cs',_,rfl,rfl,q3,q4⟩⟩
end
section
variable {P:Program} {w0 w:World} {X:List Nat} {R:List As} {t:TypeId} {g:Nat} {d:D} {cs:List Value}
theorem Mem.bxOpen (M:Mem P w0 X w (.bx g d t::R)):∃cs,Mem P w0 X w (.bk g t cs:: .ow d t cs::R):=by obtain⟨hm,FF,s1,s2,s3⟩:=M;obtain⟨G,Fr,rfl,⟨cs,F',rfl,hB,ho⟩,hr⟩:=s1;exact⟨cs,hm,_,⟨[g],_,rfl,⟨rfl,hB⟩,F',Fr,rfl,ho,hr⟩,s2,s3⟩
theorem Mem.bxShut (M:Mem P w0 X w (.bk g t cs:: .ow d t cs::R)):Mem P w0 X w (.bx g d t::R):=by obtain⟨hm,FF,s1,s2,s3⟩:=M;obtain⟨_,_,rfl,⟨rfl,hB⟩,F',Fr,rfl,ho,hr⟩:=s1;exact⟨hm,_,⟨g::F',Fr,rfl,⟨cs,F',rfl,hB,ho⟩,hr⟩,s2,s3⟩
theorem Blk.seg {m j:Nat} {pre post:List Value} {v:Value} (q:Blk w g t (pre++(cs++post))) (hp:pre.length=m) (hj:cs[j]?=some v):w.cell? ⟨g,m+j,none⟩=some v:=by refine(q.cell (m+j)).trans ?_;subst hp;rw[cV dP,Nat.add_sub_cancel_left,cY (ay.1 hj).1,hj]
theorem Mem.putSeg {m j:Nat} {pre post:List Value} {u:Value} (M:Mem P w0 X w (.bk g t (pre++(cs++post))::R)) (hp:pre.length=m) (hj:j<cs.length):Mem P w0 X (w.setCell ⟨g,m+j,none⟩ u) (.bk g t (pre++(cs.set j u++post))::R):=by
 have M2:=M.put (m+j) u;subst hp
 rwa [dI _ _ dP,Nat.add_sub_cancel_left,List.set_append_left _ _ hj]at M2
end
section
variable {w0 w:World} {X:List Nat} {R:List As}
theorem Mem.heapCall {f:Nat} {args:Array Value} {Ψ:Ending->World->Prop} {v:Value} {h h':Hp} {g:Nat} (M:Mem prog w0 X w (.bx g h.toD 28::R))
 (hc:∀F,HB w g h F->(∀y∈g::F,y∈X\/w0.heap.size<=y)->Calls prog f args w λe w'=>e= .returned v/\∃F',HB w' g h' F'/\Sub w.heap.size F F'/\Mod (g::F) w w')
 (hK:∀w',Mem prog w0 X w' (.bx g h'.toD 28::R)->Ψ (.returned v) w'):Calls prog f args w Ψ:=by
 obtain⟨hm,FF,s1,s2,s3⟩:=M;obtain⟨G,Fr,rfl,⟨cs,F,rfl,kB,o⟩,hr⟩:=s1;have q:=aE.1 s2;refine(hc F ⟨cs,kB,o,q.1⟩ (λy hy=>s3 y (aG.2 (.inl hy)))).mono ?_;rintro e w' ⟨rfl,F',⟨cs',IG,o',nd'⟩,hS,hM⟩;refine hK w' ⟨hm.trans hM (λx hx=>s3 x (aG.2 (.inl hx))),(g::F')++Fr,⟨g::F',Fr,rfl,⟨cs',F',rfl,IG,o'⟩,th hr λx hx=>hM.2.2 x (wY hr x hx) λhc=>q.2.2 x hc x hx rfl⟩,?_,?_⟩
 ·exact aE.2 ⟨nd',q.2.1,λa ha b hb e=>by
   subst e;rcases kj hS a ha with h1|h1
   ·exact q.2.2 a h1 a hb rfl
   ·have:=wY hr a hb;omega⟩
 ·intro x hx;rcases aG.1 hx with hx|hx
  ·rcases kj hS x hx with h1|h1
   ·exact s3 x (aG.2 (.inl h1))
   ·right;have:=hm.size;omega
  ·exact s3 x (aG.2 (.inr hx))
theorem Mem.openHeap {h:Hp} {cs:List Value} (M:Mem prog w0 X w (.ow h.toD 28 cs::R)):∃(Ac:Option Addr) (cc:Nat) (An:Option Addr) (cn:Nat) (As:Option Addr) (ck:Nat),cs=[.slice Ac h.cells.length cc,.slice An h.names.length cn,.slice As h.slots.length ck,.int .i64 h.copies]/\(Lit.int .i64 h.copies).wf=true/\
 Mem prog w0 X w (.ow (.sl (h.cells.map Cel.toD)) 24 [.slice Ac h.cells.length cc]:: .ow (.sl (h.names.map .s)) 25 [.slice An h.names.length cn]:: .ow (.sl (h.slots.map (.i .i64))) 26 [.slice As h.slots.length ck]::R):=by
 obtain⟨F,h1,h2,h3⟩:=Mem.split [_] M;obtain⟨A1,n1,c1,A2,n2,c2,A3,n3,c3,F1,F2,F3,rfl,rfl,o1,o2,o3⟩:=tC (iQ.1 h1);obtain⟨_,_,_,_,_,_,_,_,_,_,_,_,_,wf⟩:=iP (eW _ _ _ _ (iQ.1 h1));have l1:=(ef (eW _ _ _ _ o1)).1;have l2:=(ef (eW _ _ _ _ o2)).1;have l3:=(ef (eW _ _ _ _ o3)).1;rw[au]at l1 l2 l3;subst l1 l2 l3;exact⟨A1,c1,A2,c2,A3,c3,rfl,wf,h3 w [_,_,_] _ ⟨F1,_,rfl,o1,F2,_,rfl,o2,F3,_,rfl,o3,rfl⟩ h2 (λg hg=> .inl hg) Mod.refl⟩
theorem Mem.openVecL {v:Vec} {Ai:Option Addr} {ni ci:Nat} {Ap:Option Addr} {np cp:Nat} {An:Option Addr} {nn cn:Nat} {Ac:Option Addr} {nc cc:Nat} {Al:Option Addr} {nl cl:Nat} {k co en:Value} (M:Mem prog w0 X w (.ow v.toD 38 [k,.slice Ai ni ci,.slice Ap np cp,.slice An nn cn,.slice Ac nc cc,.slice Al nl cl,co,en]::R)):
 Mem prog w0 X w (.ow (.sl (v.items.map Item.toD)) 35 [.slice Ai ni ci]:: .ow (.sl (v.parts.map Vec.toD)) 36 [.slice Ap np cp]:: .ow (.sl (v.names.map .s)) 25 [.slice An nn cn]:: .ow (.sl (v.cls.map .s)) 25 [.slice Ac nc cc]:: .ow (.sl (v.levels.map .s)) 25 [.slice Al nl cl]::R):=by
 obtain⟨_,_,_,_,_,_,_,_,_,_,_,_,_,_,_,he,M'⟩:=M.openVec;simp only[bF,bG,cO]at he;obtain⟨-,⟨rfl,rfl,rfl⟩,⟨rfl,rfl,rfl⟩,⟨rfl,rfl,rfl⟩,⟨rfl,rfl,rfl⟩,⟨rfl,rfl,rfl⟩,-⟩:=he;exact M'
theorem Mem.openCell {x:Cel} {cs:List Value} (M:Mem prog w0 X w (.ow x.toD 43 cs::R)):∃(cv:List Value) (Aq:Option Addr) (cq:Nat),cs= .int .i64 x.count::(cv++[.slice Aq x.parts.length cq])/\(Lit.int .i64 x.count).wf=true/\
 Mem prog w0 X w (.ow x.value.toD 38 cv:: .ow (.sl (x.parts.map (.i .i64))) 26 [.slice Aq x.parts.length cq]::R):=by
 obtain⟨F,h1,h2,h3⟩:=Mem.split [_] M;obtain⟨A1,n1,c1,A2,n2,c2,A3,n3,c3,A4,n4,c4,A5,n5,c5,Aq,nq,cq,F1,F2,F3,F4,F5,Fp,rfl,rfl,o1,o2,o3,o4,o5,op⟩:=jp (iQ.1 h1);obtain⟨_,_,_,_,_,_,_,_,_,_,_,_,_,_,_,_,_,_,-,wf,rv,-⟩:=i8 (eW _ _ _ _ (iQ.1 h1));obtain⟨_,_,_,_,_,_,_,_,_,_,-,wk,-,-,-,-,-,wc,we⟩:=d_ rv;have l1:=(ef (eW _ _ _ _ op)).1;rw[au]at l1;subst l1;exact⟨_,Aq,cq,rfl,wf,h3 w [_,_] _ ⟨_,_,rfl,jD wk o1 o2 o3 o4 o5 wc we,Fp,_,rfl,op,rfl⟩ h2 (λg hg=> .inl hg) Mod.refl⟩
theorem Mem.cellOut {g n c k:Nat} {l:List Cel} {x:Cel} (M:Mem prog w0 X w (.ow (.sl (l.map Cel.toD)) 24 [.slice (some ⟨g,0,none⟩) n c]::R)) (hk:l[k]?=some x):
 ∃(Ai:Option Addr) (ci:Nat) (Ap:Option Addr) (cp:Nat) (An:Option Addr) (cn:Nat) (Ac:Option Addr) (cc:Nat) (Al:Option Addr) (cl:Nat) (Aq:Option Addr) (cq:Nat) (pre post:List Value) (ca cb:List (List Value)),pre.length=k*10/\n=l.length/\(Lit.int .i64 x.count).wf=true/\(Lit.int .i64 x.value.kind).wf=true/\(Lit.int .i64 x.value.code).wf=true/\(Lit.int .i64 x.value.env).wf=true/\
  Mem prog w0 X w (.bk g 43 (pre++([.int .i64 x.count,.int .i64 x.value.kind,.slice Ai x.value.items.length ci,.slice Ap x.value.parts.length cp,.slice An x.value.names.length cn,.slice Ac x.value.cls.length cc,.slice Al x.value.levels.length cl,.int .i64 x.value.code,.int .i64 x.value.env,.slice Aq x.parts.length cq]++post)):: .ow (.sl (x.value.items.map Item.toD)) 35 [.slice Ai x.value.items.length ci]:: .ow (.sl (x.value.parts.map Vec.toD)) 36 [.slice Ap x.value.parts.length cp]:: .ow (.sl (x.value.names.map .s)) 25 [.slice An x.value.names.length cn]:: .ow (.sl (x.value.cls.map .s)) 25 [.slice Ac x.value.cls.length cc]:: .ow (.sl (x.value.levels.map .s)) 25 [.slice Al x.value.levels.length cl]:: .ow (.sl (x.parts.map (.i .i64))) 26 [.slice Aq x.parts.length cq]:: .oa ((l.map Cel.toD).take k) 43 ca:: .oa ((l.map Cel.toD).drop (k+1)) 43 cb::R)/\
  ∀(Y4 w':World) (X':List Nat) (R':List As) (y:Cel) (Ai:Option Addr) (ni ci:Nat) (Ap:Option Addr) (np cp:Nat) (An:Option Addr) (nn cn:Nat) (Ac:Option Addr) (nc cc:Nat) (Al:Option Addr) (nl cl:Nat) (Aq:Option Addr) (nq cq:Nat),(Lit.int .i64 y.count).wf=true->(Lit.int .i64 y.value.kind).wf=true->(Lit.int .i64 y.value.code).wf=true->(Lit.int .i64 y.value.env).wf=true->
   Mem prog Y4 X' w' (.bk g 43 (pre++([.int .i64 y.count,.int .i64 y.value.kind,.slice Ai ni ci,.slice Ap np cp,.slice An nn cn,.slice Ac nc cc,.slice Al nl cl,.int .i64 y.value.code,.int .i64 y.value.env,.slice Aq nq cq]++post)):: .ow (.sl (y.value.items.map Item.toD)) 35 [.slice Ai ni ci]:: .ow (.sl (y.value.parts.map Vec.toD)) 36 [.slice Ap np cp]:: .ow (.sl (y.value.names.map .s)) 25 [.slice An nn cn]:: .ow (.sl (y.value.cls.map .s)) 25 [.slice Ac nc cc]:: .ow (.sl (y.value.levels.map .s)) 25 [.slice Al nl cl]:: .ow (.sl (y.parts.map (.i .i64))) 26 [.slice Aq nq cq]:: .oa ((l.map Cel.toD).take k) 43 ca:: .oa ((l.map Cel.toD).drop (k+1)) 43 cb::R')->
   Mem prog Y4 X' w' (.ow (.sl ((l.set k y).map Cel.toD)) 24 [.slice (some ⟨g,0,none⟩) n c]::R'):=by
 obtain⟨cs,pre,post,ca,cb,h1,h2,h3,M1,h4⟩:=M.hole underlying24 (s:=10) dU (show (l.map Cel.toD)[k]?=some x.toD by rw[cg,hk];rfl);have M2:=M1.pull 1 rfl;obtain⟨cv,Aq,cq,rfl,wf1,M3⟩:=M2.openCell;obtain⟨Ai,ci,Ap,cp,An,cn,Ac,cc,Al,cl,rfl,wk,-,-,-,-,-,wc,we⟩:=d_ (M3.rp 0 rfl);have M4:=M3.openVecL;refine⟨Ai,ci,Ap,cp,An,cn,Ac,cc,Al,cl,Aq,cq,pre,post,ca,cb,h1,by rw[h3,au],wf1,wk,wc,we,M4.pull 6 rfl,?_⟩;intro Y4 w' X' R' y Ai ni ci Ap np cp An nn cn Ac nc cc Al nl cl Aq nq cq q1 q2 q3 q4 M';have e:(l.set k y).map Cel.toD=(l.map Cel.toD).set k y.toD:=by rw[dH]
 rw[e];refine h4 Y4 w' X' R' y.toD ([y.count,y.value.kind,.slice Ai ni ci,.slice Ap np cp,.slice An nn cn,.slice Ac nc cc,.slice Al nl cl,y.value.code,y.value.env,.slice Aq nq cq]) rfl ?_;have M5:Mem prog Y4 X' w' (.ow (.sl (y.value.items.map Item.toD)) 35 [.slice Ai ni ci]:: .ow (.sl (y.value.parts.map Vec.toD)) 36 [.slice Ap np cp]:: .ow (.sl (y.value.names.map .s)) 25 [.slice An nn cn]:: .ow (.sl (y.value.cls.map .s)) 25 [.slice Ac nc cc]:: .ow (.sl (y.value.levels.map .s)) 25 [.slice Al nl cl]:: .ow (.sl (y.parts.map (.i .i64))) 26 [.slice Aq nq cq]:: .bk g 43 (pre++([.int .i64 y.count,.int .i64 y.value.kind,.slice Ai ni ci,.slice Ap np cp,.slice An nn cn,.slice Ac nc cc,.slice Al nl cl,.int .i64 y.value.code,.int .i64 y.value.env,.slice Aq nq cq]++post)):: .oa ((l.map Cel.toD).take k) 43 ca:: .oa ((l.map Cel.toD).drop (k+1)) 43 cb::R'):=M'.perm (by refine List.Perm.trans (List.perm_middle (l₁:=[_,_,_,_,_,_])).symm ?_;exact List.Perm.refl _)
 have M6:=(M5.joinVec q2 q3 q4).joinCell (x:=y) q1;exact M6.pull 1 rfl
end
section
variable {P:Program} {ops:Array Oper} {Q:Exit->Act->World->Prop} {o:Oper} {rest:List Oper} {D0:List Deferred} {T T':Array Value} {w w' w0:World} {X:List Nat} {L L':List As} {g:Nat} {t e:TypeId} {cs cs':List Value}
def AD (w:World) (g m:Nat):Nat->List Value->Prop
 |_,[]=>True
 |k,v::t=>w.cell? ⟨g,m+k,none⟩=some v/\AD w g m (k+1) t
theorem Jk {w:World} {g m:Nat} {t:TypeId} {pre cs post:List Value} (h:Blk w g t (pre++(cs++post))) (hp:pre.length=m):∀(l:List Value) (k:Nat),(∀i,i<l.length->l[i]?=cs[k+i]?)->AD w g m k l
 |[],_,_=>bO
 |v::l,k,hl=>⟨h.seg hp (by rw[<-cF k,<-hl 0 dR];rfl),Jk h hp l (k+1) λi hi=>by have:=hl (i+1) dS;rw[ag]at this;rw[this];congr 1;omega⟩
theorem Blk.mid {w:World} {g m:Nat} {t:TypeId} {pre cs post:List Value} (h:Blk w g t (pre++(cs++post))) (hp:pre.length=m):AD w g m 0 cs:=Jk h hp cs 0 λi _=>by rw[bI]
inductive PutsM (g m:Nat) (w:World) (cs:List Value):World->List Value->Prop
 |nil:PutsM g m w cs w cs
 |zero {w1:World} {cs1:List Value} {u:Value}:PutsM g m w cs w1 cs1->0<cs1.length->PutsM g m w cs (w1.setCell ⟨g,m,none⟩ u) (cs1.set 0 u)
 |cons {w1:World} {cs1:List Value} {k:Nat} {u:Value}:PutsM g m w cs w1 cs1->k<cs1.length->PutsM g m w cs (w1.setCell ⟨g,m+k,none⟩ u) (cs1.set k u)
 |two {w1:World} {cs1:List Value} {a b:Nat} {u:Value}:PutsM g m w cs w1 cs1->a+b<cs1.length->PutsM g m w cs (w1.setCell ⟨g,m+a+b,none⟩ u) (cs1.set (a+b) u)
theorem Mem.putsM {X:List Nat} {R:List As} {t:TypeId} {g m:Nat} {w w':World} {cs cs' pre post:List Value} (hp:PutsM g m w cs w' cs') (iZ:pre.length=m) (M:Mem P w0 X w (.bk g t (pre++(cs++post))::R)):Mem P w0 X w' (.bk g t (pre++(cs'++post))::R):=by
 induction hp with
 |nil=>exact M
 |@zero w1 cs1 u _ hl ih=>have:=Mem.putSeg (j:=0) (u:=u) ih iZ hl;simpa using this
 |cons _ hl ih=>exact Mem.putSeg ih iZ hl
 |two _ hl ih=>rw[Nat.add_assoc];exact Mem.putSeg ih iZ hl
theorem Sh {p:Prop} (hp:p) (M:Mem P w0 X w L) (rs:List Nat) (n:Nat) {os:List Oper} (h:WL P ops Q rest ⟨T',D0⟩ w) (h0:∀(K:Act->World->Prop) (Z:Exit->Act->World->Prop),p->xm w L rs->K ⟨T',D0⟩ w->BN P ops K Z (os.take n) ⟨T,D0⟩ w:=by intro K Z hq hc hK;(simp only[xm,ju,AD,cF,ag,ah,Nat.reduceAdd,and_assoc]at hq hc);(try simp only[cG,cL]);(repeat (refine Qu ?_;go_simp;(try(rw[FM];rotate_left;omega))));exact Kt hK) (hd:os.drop n=rest:=by(simp only[dN,Hc])<;>with_reducible rfl):WL P ops Q os ⟨T,D0⟩ w:=Cu n os _ _ (h0 _ _ hp (M.facts rs) (by rw[hd];exact h))
theorem Sm {pre post:List Value} {m:Nat} (M:Mem P w0 X w (.bk g t (pre++(cs++post))::L)) (iZ:pre.length=m) (h:∀w',Mem P w0 X w' (.bk g t (pre++(cs'++post))::L)->WL P ops Q rest ⟨T',D0⟩ w')
 (h0:∀(K:Act->World->Prop) (Z:Exit->Act->World->Prop),AD w g m 0 cs->(∀i,w.frozen? ⟨g,i,none⟩=false)->g<w.heap.size->K ⟨T',D0⟩ w'->if Region.wanted o (yielded ops T)=true then Oper.wp P o ⟨T,D0⟩ w K Z else K ((Act.mk T D0).put o.dst undef) w:=by intro K Z hc hf hg hK;simp only[AD,Nat.reduceAdd,cF]at hc;go_simp;exact hK)
 {cs1:List Value} (hp:PutsM g m w cs w' cs1:=by(repeat'(first|with_reducible exact PutsM.nil|(with_reducible apply PutsM.cons)|(with_reducible apply PutsM.zero)|(with_reducible apply PutsM.two)))<;>simp) (hL:cs1=cs':=by(simp only[a_,be,Nat.reduceAdd])<;>with_reducible rfl):WL P ops Q (o::rest) ⟨T,D0⟩ w:=
 oL λK hK=>h0 K Q ((M.bl 0 rfl).mid iZ) (M.bl 0 rfl).frozen (M.bl 0 rfl).lt (hK _ _ (h _ (by rw[<-hL];exact Mem.putsM hp iZ M)))
end
def apL:List As->List As->List As
 |[],r=>r
 |x::t,r=>x::apL t r
theorem Ij {ops:Array Oper} {Q:Exit->Act->World->Prop} {o:Oper} {rest:List Oper} {D0:List Deferred} {T:Array Value} (M:Mem P w0 X w L) (n:Nat) (V:Gh->Value) (N:Gh->List As) {T1:Gh->Array Value} {L2:Gh->List As}
 (h0:∀(K:Act->World->Prop) (Z:Exit->Act->World->Prop),(∀x w',Mem P w0 X w' (apL (N x) (L.drop n))->K ((Act.mk T D0).put o.dst (V x)) w')->if Region.wanted o (yielded ops T)=true then Oper.wp P o ⟨T,D0⟩ w K Z else K ((Act.mk T D0).put o.dst undef) w)
 (h:∀x w',Mem P w0 X w' (L2 x)->WL P ops Q rest ⟨T1 x,D0⟩ w')
 (hT:∀x,(Act.mk T D0).put o.dst (V x)=⟨T1 x,D0⟩:=by intro x;(simp only[Act.put,bh,a_,be])<;>with_reducible rfl) (hL:∀x,apL (N x) (L.drop n)=L2 x:=by intro x;(simp only[dN,Hc,apL])<;>with_reducible rfl):WL P ops Q (o::rest) ⟨T,D0⟩ w:=
 oL λK hK=>h0 K Q λx w' M'=>hK _ _ (by rw[hT];exact h x w' (by rw[<-hL];exact M'))
def CuA (A:Option Addr) (n c:Nat) (w:World) (g:Nat):Prop:=∃(bs:List UInt8) (i h:Int) (B:Nat),Blk w g 122 [.slice A n c,i,h]/\B<=g/\Reads zq 1 w B A n bs/\0<=i/\i<=n/\n<=9223372036854775806
def DrA (Ca:Option Addr) (Cn Cc:Nat) (w:World) (g:Nat) (w':World):Prop:=CuA Ca Cn Cc w' g/\w.grownBy w' (some g)
def abO (Ca:Option Addr) (Cn Cc:Nat) (w:World) (g:Nat) (e:Ending) (w':World):Prop:=∃x:Int,0<=x/\x<=255/\e= .returned (.int .i64 x)/\DrA Ca Cn Cc w g w'
def ys (Ca:Option Addr) (Cn Cc:Nat) (n:Int) (w:World) (g:Nat) (e:Ending) (w':World):Prop:=∃x:Int,0<=x/\x<n/\e= .returned (.int .i64 x)/\DrA Ca Cn Cc w g w'
def Gc (Ca:Option Addr) (Cn Cc:Nat) (w:World) (g:Nat) (e:Ending) (w':World):Prop:=∃b:Bool,e= .returned (.bool b)/\DrA Ca Cn Cc w g w'
def yp {α:Type} (l:List α) (v:α->Value) (Ca:Option Addr) (Cn Cc:Nat) (w:World) (g:Nat) (e:Ending) (w':World):Prop:=∃x,x∈l/\e= .returned (v x)/\DrA Ca Cn Cc w g w'
section
variable {Ca:Option Addr} {Cn Cc:Nat}
theorem x5 {A:Option Addr} {n c:Nat} (g:Nat) (w:World) (hc:CuA A n c w g):
 Calls prog 148 #[.pointer (some ⟨g,0,none⟩)] w (abO A n c w g):=by
 obtain⟨bs,i,h,B,hk,hB,hr,DI,hi1,hn⟩:=hc;have xO:w.cell? ⟨g,0,none⟩=some (.slice A n c):=hk.cell 0;have hc1:w.cell? ⟨g,1,none⟩=some (.int .i64 i):=hk.cell 1;have hc2:w.cell? ⟨g,2,none⟩=some (.int .i64 h):=hk.cell 2;have tW:=hk.frozen 1;have hz2:=hk.frozen 2;go_enter func148,ntmps148;go_wp2;generalize wrap64 (wrap64 (h*6364136223846793005)+1442695040888963407)=h2;have Nn:Blk (w.setCell ⟨g,2,none⟩ (.int .i64 h2)) g 122 [.slice A n c,i,h2]:=hk.set_ 2 _;have hg1:w.grownBy (w.setCell ⟨g,2,none⟩ (.int .i64 h2)) (some g):=Lw (A8 _ _) (.inl rfl) _;have WE:Reads zq 1 (w.setCell ⟨g,2,none⟩ (.int .i64 h2)) B A n bs:=hr.keep λp hp=>World.cell?_of_block (Below.heap_setCell w _ _ _ ig);generalize w.setCell ⟨g,2,none⟩ (.int .i64 h2)=w1 at Nn hg1 WE ⊢;clear xO hc1 hc2 tW hz2 hk hr;have xO:w1.cell? ⟨g,0,none⟩=some (.slice A n c):=Nn.cell 0;have hc1:w1.cell? ⟨g,1,none⟩=some (.int .i64 i):=Nn.cell 1;have hc2:w1.cell? ⟨g,2,none⟩=some (.int .i64 h2):=Nn.cell 2;have tW:=Nn.frozen 1;go_quiet (fail);go_wp2;have qM:=abi (bits BinOp.xor IntKind.i64 (h2/8589934592) (h2/35184372088832));generalize bits BinOp.and IntKind.i64 (bits BinOp.xor IntKind.i64 (h2/8589934592) (h2/35184372088832)) 255=x1 at qM ⊢;obtain⟨hx0,qM⟩:=qM;by_cases hlt:i<n
 ·obtain⟨j,rfl⟩:=bQ DI;obtain⟨b,off,x,rfl,hb,Zw⟩:=WE.atB (k:=j) dP;have hx:=x.toNat_lt;go_quiet (fail);go_wp2;go_quiet (fail);go_wp2;go_ret;exact⟨_,(abi _).1,(abi _).2,rfl,⟨bs,(j:Int)+1,h2,B,(show Blk (w1.drewN _) g _ _ from Nn).set_ 1 _,hB,WE.keep λp hp=>World.cell?_of_block (Below.heap_setCell _ _ _ _ ig),by omega,by omega,hn⟩,Lw (p:=⟨g,1,none⟩) (abu hg1 _) (.inl rfl) _⟩
 ·have hd:decide (i<(n:Int))=false:=dS;go_quiet (fail);go_wp2;go_ret;exact⟨x1,hx0,qM,rfl,⟨bs,i,h2,B,Nn,hB,WE,DI,hi1,hn⟩,⟨hg1.os,hg1.tape,hg1.output,hg1.size,hg1.block⟩⟩
theorem DrA.lt {w w':World} {g:Nat} (h:DrA Ca Cn Cc w g w'):g<w'.heap.size:=by obtain⟨⟨bs,i,hh,B,hk,_⟩,_⟩:=h;exact hk.lt
theorem DrA.trans {w w1 w2:World} {g:Nat} (h:DrA Ca Cn Cc w g w1) (k:DrA Ca Cn Cc w1 g w2):DrA Ca Cn Cc w g w2:=
 ⟨k.1,⟨k.2.os.trans h.2.os,k.2.tape.trans h.2.tape,k.2.output.trans h.2.output,du h.2.size k.2.size,λi hi hn=>(k.2.block i (db hi h.2.size) hn).trans (h.2.block i hi hn)⟩⟩
theorem CuA.lt {w:World} {g:Nat} (h:CuA Ca Cn Cc w g):g<w.heap.size:=by obtain⟨bs,i,hh,B,hk,_⟩:=h;exact hk.lt
theorem CuA.below {w w':World} {g:Nat} (h:CuA Ca Cn Cc w g) (hb:Below w.heap.size w w'):CuA Ca Cn Cc w' g:=by obtain⟨bs,i,hh,B,hk,hB,hr,h4⟩:=h;exact⟨bs,i,hh,B,hk.below hb hk.lt,hB,hr.below (hb.mono (by have:=hk.lt;omega)),h4⟩
theorem DrA.below {w w1 w2:World} {g:Nat} (h:DrA Ca Cn Cc w g w1) (hb:Below w1.heap.size w1 w2):DrA Ca Cn Cc w g w2:=⟨h.1.below hb,PT h.2 hb⟩
theorem ne (g:Nat) (n:Int) (w:World) (hc:CuA Ca Cn Cc w g) (h0:0<n) (hn:n<=4294967296):
 Calls prog 93 #[.pointer (some ⟨g,0,none⟩),n] w (ys Ca Cn Cc n w g):=by
 by_cases hs:n<=256
 ·go_enter func93,ntmps93;go_wp2_with fail;refine(x5 g _ hc).mono ?_;rintro e w1 ⟨x,hx0,qM,rfl,Jy⟩;go_wp2_with fail;go_ret;exact⟨x % n,Int.emod_nonneg _ dP,Int.emod_lt_of_pos _ h0,rfl,Jy⟩
 ·go_enter func93,ntmps93;go_wp2_with fail;refine(x5 g _ hc).mono ?_;rintro e w1 ⟨x,hx0,qM,rfl,Jy⟩;go_wp2_with fail;refine(x5 g _ Jy.1).mono ?_;rintro e w2 ⟨y,hy0,WF,rfl,It⟩;go_wp2_with fail;refine(x5 g _ It.1).mono ?_;rintro e w3 ⟨z,rJ,tW,rfl,hd3⟩;go_wp2_with fail;refine(x5 g _ hd3.1).mono ?_;rintro e w4 ⟨u,hu0,hu1,rfl,hd4⟩;go_wp2_with fail;go_ret;exact⟨_,Int.emod_nonneg _ dP,Int.emod_lt_of_pos _ h0,rfl,Jy.trans (It.trans (hd3.trans hd4))⟩
theorem x6 (g:Nat) (n:Int) (w:World) (hc:CuA Ca Cn Cc w g) (h0:0<n) (hn:n<=4294967296):
 Calls prog 33 #[.pointer (some ⟨g,0,none⟩),n] w (Gc Ca Cn Cc w g):=by
 go_enter func33,ntmps33;go_wp2_with fail;refine(ne g n _ hc h0 hn).mono ?_;rintro e w1 ⟨x,hx0,qM,rfl,Jy⟩;go_wp2_with fail;go_ret;exact⟨_,rfl,Jy⟩
theorem Reads.drawnA {α:Type} {enc:α->List Value} {s:Nat} {w w':World} {n g:Nat} {A:Option Addr} {l:List α} (h:Reads enc s w w.heap.size A n l) (hd:DrA Ca Cn Cc w g w') (jC:∀b off,A=some ⟨b,off,none⟩->b≠g):Reads enc s w' w'.heap.size A n l:=E0
theorem acs (g:Nat) (A:Option Addr) (n c:Nat) (l:List Str) (w:World) (hc:CuA Ca Cn Cc w g) (hr:Reads encS 1 w w.heap.size A n l) (jC:∀b off,A=some ⟨b,off,none⟩->b≠g) (h0:0<n) (hn:n<=65536):
 Calls prog 96 #[.pointer (some ⟨g,0,none⟩),.slice A n c] w (yp l sv Ca Cn Cc w g):=by
 go_enter func96,ntmps96;go_wp2_with fail;refine(ne g n _ hc dP dP).mono ?_;rintro e w1 ⟨x,hx0,qM,rfl,Jy⟩;obtain⟨k,rfl⟩:=bQ hx0;obtain⟨b,off,s,rfl,hb,hx,zd⟩:=(hr.drawnA Jy jC).atS (k:=k) dP;have HX:=aa hx;clear hx;go_wp2_with fail;go_ret;exact⟨s,aA HX.out,rfl,Jy⟩
theorem aa0 (g:Nat) (A:Option Addr) (n c:Nat) (l:List Int) (w:World) (hc:CuA Ca Cn Cc w g) (hr:Reads mR 1 w w.heap.size A n l) (jC:∀b off,A=some ⟨b,off,none⟩->b≠g) (h0:0<n) (hn:n<=65536):
 Calls prog 95 #[.pointer (some ⟨g,0,none⟩),.slice A n c] w (yp l (.int .i64) Ca Cn Cc w g):=by
 go_enter func95,ntmps95;go_wp2_with fail;refine(ne g n _ hc dP dP).mono ?_;rintro e w1 ⟨x,hx0,qM,rfl,Jy⟩;obtain⟨k,rfl⟩:=bQ hx0;obtain⟨b,off,s,rfl,hb,hx,zd⟩:=(hr.drawnA Jy jC).atI (k:=k) dP;have HX:=aa hx;clear hx;go_wp2_with fail;go_ret;exact⟨s,aA HX.out,rfl,Jy⟩
end
theorem acL (A:Option Addr) (n c:Nat) (bs:List UInt8) (w:World) (hr:Reads zq 1 w w.heap.size A n bs) (hn:n<=1048576):
 Calls prog 32 #[.slice A n c] w λe w'=>e= .returned (.pointer (some ⟨w.heap.size,0,none⟩))/\CuA A n c w' w.heap.size/\Below w.heap.size w w':=by
 go_enter func32,ntmps32;go_wp2;go_loop [3,4] (λv i=>∃(x:Int) (k:Nat),v= .int .i64 x/\i= .int .i64 k/\k<=n) (λ_ i=>n - (intOf i).toNat)
 case atStart=>exact⟨_,0,rfl,rfl,by omega⟩
 case round=>
  obtain⟨x,k,rfl,rfl,hk⟩:=hrel;by_cases hlt:k<n
  ·by_cases h4:(k:Int)<4000
   ·obtain⟨b,off,y,rfl,hb,Zw⟩:=hr.atB (k:=k) dP;have hy:=y.toNat_lt;go_wp2;go_round
    case rel=>exact⟨_,k+1,rfl,by go_num,by omega⟩
    case measure=>simp [intOf];omega
   ·exact Ae
  ·exact Ae
noncomputable section
def Gh.S (x:Gh):Str:=match x.d with| .s s=>s|_=>[]
def Gh.Z (x:Gh):Int:=match x.d with| .i _ z=>z|_=>0
def Gh.B (x:Gh):Bool:=match x.d with| .b b=>b|_=>false
def Gh.V (x:Gh):Vec:=@Classical.epsilon Vec ⟨zeroV⟩ λv=>v.toD=x.d
def Gh.I (x:Gh):Item:=@Classical.epsilon Item ⟨⟨0,0,[]⟩⟩ λv=>v.toD=x.d
end
def ti (n:Nat) (a b:Value):Prop:=∃i h:Int,a= .int .i64 i/\b= .int .i64 h/\0<=i/\i<=n
def Fe (w0:World) (X:List Nat) (A:Option Addr) (n g:Nat):Prop:=∃(bs:List UInt8) (B:Nat),Reads zq 1 w0 B A n bs/\B<=g/\B<=w0.heap.size/\(∀x∈X,B<=x)/\n<=9223372036854775806
section
variable {w0 w w':World} {X:List Nat} {A:Option Addr} {n c g:Nat} {V0 V1:Value} {R:List As} {f:Nat} {args:Array Value} {Ψ:Ending->World->Prop} {m:Int}
theorem Mem.cua (hC:Fe w0 X A n g) (M:Mem prog w0 X w (.bk g 122 [.slice A n c,V0,V1]:: .fa (ti n V0 V1)::R)):CuA A n c w g:=by obtain⟨bs,B,hr,h1,h2,h3,h4⟩:=hC;obtain⟨i,h,rfl,rfl,h5,h6⟩:ti n V0 V1:=M.prop (aP _ aT);exact⟨bs,i,h,B,M.bl 0 rfl,h1,hr.below (M.mod.below h3 h2),h5,h6,h4⟩
theorem Gn (h:w.grownBy w' (some g)):Mod [g] w w':=
 ⟨⟨h.os,h.tape,h.output⟩,h.size,λy hy hn=>h.block y hy (λe=>hn (by injection e with e;simp [e]))⟩
theorem Mem.dra (M:Mem prog w0 X w (.bk g 122 [.slice A n c,V0,V1]:: .fa (ti n V0 V1)::R)) (hd:DrA A n c w g w'):∃V2 V3:Value,Mem prog w0 X w' (.bk g 122 [.slice A n c,V2,V3]:: .fa (ti n V2 V3)::R):=by obtain⟨⟨bs,i,h,B,hk,-,-,h5,h6,-⟩,hg⟩:=hd;refine⟨.int .i64 i,.int .i64 h,Mem.step (C:=[_,_]) (C':=[_,_]) M λF hF hn=>?_⟩;obtain⟨F1,F2,rfl,⟨rfl,-⟩,s2⟩:=fJ.1 hF;obtain⟨F3,F4,rfl,⟨rfl,-⟩,s3⟩:=fJ.1 s2;rw[Sats]at s3;subst s3;exact⟨[g],fJ.2 ⟨[g],[],rfl,⟨rfl,hk⟩,fJ.2 ⟨[],[],rfl,⟨rfl,i,h,rfl,rfl,h5,h6⟩,by rw[Sats]⟩⟩,by simp,by simp,by simpa using Gn hg⟩
theorem v5 (hC:Fe w0 X A n g) (M:Mem prog w0 X w (.bk g 122 [.slice A n c,V0,V1]:: .fa (ti n V0 V1)::R)) (hc:CuA A n c w g->Calls prog f args w (ys A n c m w g))
 (hK:∀(x:Gh) w',(x.c:Int)<m->Mem prog w0 X w' (.bk g 122 [.slice A n c,x.f 0,x.f 1]:: .fa (ti n (x.f 0) (x.f 1))::R)->Ψ (.returned (.int .i64 (x.c:Nat))) w'):Calls prog f args w Ψ:=
 (hc (M.cua hC)).mono λe w' q=>by obtain⟨x,h0,h1,rfl,hd⟩:=q;obtain⟨k,rfl⟩:=bQ h0;obtain⟨V2,V3,M'⟩:=M.dra hd;exact hK (ghD (.b false) k [V2,V3]) w' h1 M'
theorem acl (hC:Fe w0 X A n g) (M:Mem prog w0 X w (.bk g 122 [.slice A n c,V0,V1]:: .fa (ti n V0 V1)::R)) (hc:CuA A n c w g->Calls prog f args w (Gc A n c w g))
 (hK:∀(x:Gh) w',Mem prog w0 X w' (.bk g 122 [.slice A n c,x.f 0,x.f 1]:: .fa (ti n (x.f 0) (x.f 1))::R)->Ψ (.returned (.bool x.B)) w'):Calls prog f args w Ψ:=
 (hc (M.cua hC)).mono λe w' q=>by obtain⟨b,rfl,hd⟩:=q;obtain⟨V2,V3,M'⟩:=M.dra hd;exact hK (ghD (.b b) 0 [V2,V3]) w' M'
theorem ai3 (hC:Fe w0 X A n g) (M:Mem prog w0 X w (.bk g 122 [.slice A n c,V0,V1]:: .fa (ti n V0 V1)::R)) (hc:CuA A n c w g->Calls prog f args w (yp l sv A n c w g))
 (hK:∀(x:Gh) w',Mem prog w0 X w' (.bk g 122 [.slice A n c,x.f 0,x.f 1]:: .fa (ti n (x.f 0) (x.f 1)):: .fa (x.S∈l)::R)->Ψ (.returned (sv x.S)) w'):Calls prog f args w Ψ:=
 (hc (M.cua hC)).mono λe w' q=>by obtain⟨s,hs,rfl,hd⟩:=q;obtain⟨V2,V3,M'⟩:=M.dra hd;exact hK (ghD (.s s) 0 [V2,V3]) w' ((M'.fact (p:=s∈l) hs).perm (List.Perm.trans (List.Perm.swap _ _ _) (List.Perm.cons _ (List.Perm.swap _ _ _))))
theorem ai2 {l:List Int} (hC:Fe w0 X A n g) (M:Mem prog w0 X w (.bk g 122 [.slice A n c,V0,V1]:: .fa (ti n V0 V1)::R)) (hc:CuA A n c w g->Calls prog f args w (yp l (.int .i64) A n c w g))
 (hK:∀(x:Gh) w',Mem prog w0 X w' (.bk g 122 [.slice A n c,x.f 0,x.f 1]:: .fa (ti n (x.f 0) (x.f 1)):: .fa (x.Z∈l)::R)->Ψ (.returned (.int .i64 x.Z)) w'):Calls prog f args w Ψ:=
 (hc (M.cua hC)).mono λe w' q=>by obtain⟨s,hs,rfl,hd⟩:=q;obtain⟨V2,V3,M'⟩:=M.dra hd;exact hK (ghD (.i .i64 s) 0 [V2,V3]) w' ((M'.fact (p:=s∈l) hs).perm (List.Perm.trans (List.Perm.swap _ _ _) (List.Perm.cons _ (List.Perm.swap _ _ _))))
theorem Mem.pr {p:Prop} (M:Mem P w0 X w L) (k:Nat) (h:L[k]?=some (.fa p)):p:=M.prop (aA h)
theorem Mem.far {b:Nat} {p:Prop} (M:Mem P w0 X w (.bk g t cs:: .fa p:: .bk b t' cs'::R)):b≠g:=λe=>(Mem.two (M.up [2])) e
theorem Hn {l:List Int}{b:Nat} (hC:Fe w0 X A n g) (M:Mem prog w0 X w (.bk g 122 [.slice A n c,V0,V1]:: .fa (ti n V0 V1):: .bk b t cs::R)) (hl:cs=l.flatMap mR) (hn:l.length=nn) (h0:0<nn) (h1:nn<=65536)
 (hK:∀(x:Gh) w',Mem prog w0 X w' (.bk g 122 [.slice A n c,x.f 0,x.f 1]:: .fa (ti n (x.f 0) (x.f 1)):: .fa (x.Z∈l)::R)->Ψ (.returned (.int .i64 x.Z)) w'):Calls prog 95 #[.pointer (some ⟨g,0,none⟩),.slice (some ⟨b,0,none⟩) nn cc] w Ψ:=by
 subst hl hn;refine ai2 hC M (λhc=>aa0 g _ _ _ l _ hc ((M.bl 2 rfl).reads iu (M.bl 2 rfl).lt) (λb' off e=>by injection e with e;injection e with e1;rw[<-e1];exact M.far) dP dP) λx w' M'=>hK x w' ?_;exact(M'.up [3]).drop
theorem abP {b:Nat} (hC:Fe w0 X A n g) (M:Mem prog w0 X w (.bk g 122 [.slice A n c,V0,V1]:: .fa (ti n V0 V1):: .bk b t cs::R)) (hl:cs=l.flatMap encS) (hn:l.length=nn) (h0:0<nn) (h1:nn<=65536)
 (hK:∀(x:Gh) w',Mem prog w0 X w' (.bk g 122 [.slice A n c,x.f 0,x.f 1]:: .fa (ti n (x.f 0) (x.f 1)):: .fa (x.S∈l)::R)->Ψ (.returned (sv x.S)) w'):Calls prog 96 #[.pointer (some ⟨g,0,none⟩),.slice (some ⟨b,0,none⟩) nn cc] w Ψ:=by
 subst hl hn;refine ai3 hC M (λhc=>acs g _ _ _ l _ hc ((M.bl 2 rfl).reads gW (M.bl 2 rfl).lt) (λb' off e=>by injection e with e;injection e with e1;rw[<-e1];exact M.far) dP dP) λx w' M'=>hK x w' ?_;exact(M'.up [3]).drop
def IB (y:Item):Prop:=itOK y/\y.text.length<=30
def IC (y:Item):Prop:=IB y/\ -999999999<=y.num/\y.num<=999999999
theorem IB.of {y:Item} (h1:(Lit.int .i64 y.num).wf=true) (h2:(Lit.int .i64 y.den).wf=true) (h3:y.text.length<=30):IB y:=⟨⟨h1,h2,by unfold maxLen;omega⟩,h3⟩
theorem aci {x y:Item} (h:x.toD=y.toD):x=y:=by obtain⟨a,b,c⟩:=x;obtain⟨d,e,f⟩:=y;simp [Item.toD]at h;simp [h]
theorem ghI (y:Item) (c:Nat) (l:List Value):(ghD y.toD c l).I=y:=aci (@Classical.epsilon_spec Item (λv=>v.toD=y.toD) ⟨y,rfl⟩)
theorem cIt (hc:Calls prog f args w λe w'=>(∃y:Item,Q y/\e= .returned (Me y))/\Below w.heap.size w w') (M:Mem prog w0 X w L)
 (hK:∀(x:Gh) w',Mem prog w0 X w' (.fa (Q x.I)::L)->Ψ (.returned (.agg #[x.I.num,x.I.den,sv x.I.text])) w'):Calls prog f args w Ψ:=
 hc.mono λe w' q=>by obtain⟨⟨y,hy,rfl⟩,hb⟩:=q;have:=hK (ghD y.toD 0 []) w' (by rw[ghI];exact(M.next hb).fact hy);rw[ghI]at this;exact this
theorem ada (hC:Fe w0 X A n g) (M:Mem prog w0 X w (.bk g 122 [.slice A n c,V0,V1]:: .fa (ti n V0 V1)::R)) (hc:CuA A n c w g->Calls prog f args w λe w'=>∃y:Item,Q y/\e= .returned (Me y)/\DrA A n c w g w')
 (hK:∀(x:Gh) w',Mem prog w0 X w' (.bk g 122 [.slice A n c,x.f 0,x.f 1]:: .fa (ti n (x.f 0) (x.f 1)):: .fa (Q x.I)::R)->Ψ (.returned (.agg #[x.I.num,x.I.den,sv x.I.text])) w'):Calls prog f args w Ψ:=
 (hc (M.cua hC)).mono λe w' q=>by obtain⟨y,hy,rfl,hd⟩:=q;obtain⟨V2,V3,M'⟩:=M.dra hd;have:=hK (ghD y.toD 0 [V2,V3]) w' (by rw[ghI];exact(M'.fact (p:=Q y) hy).perm (List.Perm.trans (List.Perm.swap _ _ _) (List.Perm.cons _ (List.Perm.swap _ _ _))));rw[ghI]at this;exact this
theorem Mem.inCur (h:CuA A n c w g):∃V0 V1:Value,Fe w [g] A n g/\Mem prog w [g] w (.bk g 122 [.slice A n c,V0,V1]:: .fa (ti n V0 V1)::[]):=by obtain⟨bs,i,hh,B,hk,hB,hr,h5,h6,h7⟩:=h;have hlt:=hk.lt;exact⟨_,_,⟨bs,B,hr,hB,by omega,by simpa using hB,h7⟩,Mod.refl,[g],fJ.2 ⟨[g],[],rfl,⟨rfl,hk⟩,fJ.2 ⟨[],[],rfl,⟨rfl,i,hh,rfl,rfl,h5,h6⟩,by rw[Sats]⟩⟩,by simp,by simp⟩
theorem Mem.outCur (hC:Fe w [g] A n g) (M:Mem prog w [g] w' (.bk g 122 [.slice A n c,V0,V1]:: .fa (ti n V0 V1)::R)):DrA A n c w g w':=
 ⟨M.cua hC,M.mod.1.1,M.mod.1.2.1,M.mod.1.2.2,M.mod.size,λy hy hn=>M.mod.2.2 y hy (λh=>hn (by simp at h;rw[h]))⟩
end
theorem YN {a b c d:Value} (h:a=c) (h':b=d):Ending.returned (.tuple #[a,b])= .returned (.tuple #[c,d]):=by rw[h,h']
theorem PD {h:Hp} {k:Int} {l:List Int} {i:Nat} (hi:l[i]?=some k) (hk:¬(0<=k/\k<h.cells.length)):l.all (inR h)=false:=nN hi (by simpa [inR]using hk)
def CtR (h:Hp) (n:Nat) (w:World) (e:Ending) (w':World):Prop:=
 ((refs h).all (inR h)=false/\e= .returned (.tuple #[(),.bool false])/\Below w.heap.size w w')\/
 ((refs h).all (inR h)=true/\∃g c,e= .returned (.tuple #[.slice (some ⟨g,0,none⟩) n c,.bool true])/\Own mR 1 3 w' w.heap.size (some ⟨g,0,none⟩) n c (lM n (refs h))/\Below w.heap.size w w')
theorem Cv {n:Nat} {l:List Int} {i:Nat} (hi:i<n):∃v:Int,(lM n l)[i]?=some v/\0<=v/\v<=l.length:=⟨_,pM l hi,by omega,by have:=List.count_le_length (a:=(i:Int)) (l:=l);omega⟩
theorem Kc {h:Hp} {p:Nat} {x:Cel} (hx:h.cells[p]?=some x):(h.slots++(h.cells.take p).flatMap (·.parts)).length+x.parts.length<=(refs h).length:=by
 have e:h.cells=h.cells.take p++x::h.cells.drop (p+1):=by obtain⟨hp,rfl⟩:=ay.1 hx;rw[List.getElem_cons_drop hp,cA]
 unfold refs
 conv=>rhs;rw[e]
 simp only[aY,cj,cB];omega
theorem YM {h:Hp} {p:Nat} {x:Cel} (hx:h.cells[p]?=some x) (hn:x.parts.all (inR h)=false):(refs h).all (inR h)=false:=by rw[List.all_eq_false]at hn ⊢;obtain⟨k,hk,hb⟩:=hn;exact⟨k,by unfold refs;exact bD _ (dM.2 ⟨x,aA hx,hk⟩),hb⟩
theorem Lz (h:Hp):(refs h).length<=szD h.toD:=by
 have h1:=nM h;have h2:∀l:List Cel,(l.flatMap (·.parts)).length<=gv (l.map Cel.toD):=λl=>by
  induction l with
  |nil=>simp
  |cons c t ih=>
   have:=wF c;rw[cB,aY,br,gv];simp only[szD,au]at this;omega
 have h3:=h2 h.cells;unfold refs;rw[aY];simp only[szD,au]at h1;omega
theorem Ej (n:Nat):(madeCells #[.int .i64 0] n).toList=(List.replicate n (0:Int)).flatMap mR:=by
 rw[dr]
 induction n with
 |zero=>rfl
 |succ n ih=>rw[dE,dE,cB,<-ih];rfl
theorem Dl (h:Hp) (hz:szD h.toD<=4194304) (K9:h.cells.length<=4194304) (TB:(refs h).length<=4194304) (cs:List Value) (w:World) (hr:rep w w.heap.size h.toD cs):Calls prog 59 #[av cs] w (CtR h h.cells.length w):=by
 obtain⟨A,n,c,Am,nm,cm,As,ns,ca,rfl,rc,rn,rs,wc⟩:=iP hr;have hl:=(ef rc).1;rw[au]at hl;obtain⟨Wl,WG,ca',he,_,hsm,hs,_⟩:=(qy _ _ _ _).1 rs;injection he with he;injection he with f1 f2 f3;subst f1 f2 f3
 have hn:n<=4194304:=dP;have q0:=(Below.refl w.heap.size w).alloc (af _) (.cells #[.slice A n c,.slice Am nm cm,.slice As ns ca,h.copies] 28);obtain⟨i0,DI,rJ,tW,hz2⟩:=cZ CB;have xx:=λW=>iw (P:=prog) 26 3 i0 _ underlying26 DI rJ .i64 .i64 n n (af _) jj dP W;rw[tW,cu]at xx;have kh:Blk ((w.alloc (.cells #[.slice A n c,.slice Am nm cm,.slice As ns ca,h.copies] 28)).alloc (.cells (madeCells #[.int .i64 0] n) 3)) w.heap.size 28 [.slice A n c,.slice Am nm cm,.slice As ns ca,h.copies]:=(Blk.new' (l:=[.slice A n c,.slice Am nm cm,.slice As ns ca,.int .i64 h.copies])).al;have q1:=q0.alloc eA (.cells (madeCells #[.int .i64 0] n) 3);have o0:Own mR 1 3 ((w.alloc (.cells #[.slice A n c,.slice Am nm cm,.slice As ns ca,h.copies] 28)).alloc (.cells (madeCells #[.int .i64 0] n) 3)) (w.heap.size+1) (some ⟨w.heap.size+1,0,none⟩) n n (lM n []):=
  Own.new_ iu _ _ _ (by rw[MB];exact Ej n) (uX n []) eb eA (by simp only[dT])
 have HL:=aa hl;have ahS:=TB;rw[refs,aY]at ahS;have hss:h.slots.length=ns:=hs.len;have HSS:=aa hss;have hns:ns<=4194304:=dP;clear hl hss;go_enter func59,ntmps59;go_wp2_with fail;clear xx;go_loopw [18] (λv wr=>∃m:Nat,m<=ns/\v= .int .i64 m/\Own mR 1 3 wr (w.heap.size+1) (some ⟨w.heap.size+1,0,none⟩) n n (lM n (h.slots.take m))/\(h.slots.take m).all (inR h)=true/\Blk wr w.heap.size 28 [.slice A n c,.slice Am nm cm,.slice As ns ca,h.copies]/\Below w.heap.size w wr) (λv _=>ns - (intOf v).toNat)
 case atStart=>exact⟨0,by omega,rfl,o0,by simp,kh,q1⟩
 case round=>
  clear kh o0 q1;obtain⟨m,hm,rfl,o0,jb,kh,bb⟩:=hrel;obtain⟨g0,g1,g2,g3⟩:=kh.c4;have Kw:=aa jb;clear jb;by_cases hlt:m<ns
  ·obtain⟨b,off,k,rfl,gD,hk,xO⟩:=(hs.below bb).atI hlt;have im:(m:Int)<(ns:Int):=dP;by_cases hin:0<=k/\k<(n:Int)
   ·obtain⟨i,rfl⟩:∃i:Nat,k=i:=⟨k.toNat,by omega⟩;have hi:i<n:=dP;obtain⟨v,hv,hv0,Nk⟩:=Cv (l:=h.slots.take m) hi;have hvb:v<=4194304:=by have:=dO m h.slots;omega
    obtain⟨_,_,v',e1,_,xg,AA⟩:=(o0.reads iu).atI hi;injection e1 with e1;injection e1 with e1 e2;subst e1 e2
    rw[hv]at xg;injection xg with xg;subst xg
    rw[bI]at AA;have zf:=(o0.fil).1.frozen i;have HV:=aa hv;have HK:=aa hk;have i1:(i:Int)<(n:Int):=dP;have i0:(0:Int)<=(i:Int):=dP;have jC:¬(n:Int)<=(i:Int):=dP;clear hin hv hk;go_wp2_with fail;go_roundw
    case rel=>
     have o1:=Own.set_ iu o0 i 0 v (v+1) (.int .i64 (v+1)) HV.out dP rfl;rw[cu,cF]at o1;have hvc:v=((List.count (i:Int) (h.slots.take m):Nat):Int):=by have:=pM (h.slots.take m) hi;rw[HV.out]at this;injection this
     refine⟨m+1,by omega,by go_num,?_,?_,?_,?_⟩
     ·rw[eJ HK.out,<-wJ _ hi,<-hvc];exact o1
     ·exact iY HK.out Kw.out wh
     ·exact kh.pk ig
     ·exact ie bb ig
    case measure=>simp [intOf];omega
   ·have DL:=PD (h:=h) hk (by rw[HL.out];exact hin);have HN:Hid ((refs h).all (inR h)=false):=aa (by rw[refs,List.all_append,DL];rfl);by_cases h0:k<0
    ·clear hin DL hk;go_wp2_with fail;go_ret2;exact .inl ⟨HN.out,rfl,bb⟩
    ·have h1:(n:Int)<=k:=dP;clear hin DL hk;go_wp2_with fail;go_ret2;exact .inl ⟨HN.out,rfl,bb⟩
  ·obtain rfl:m=ns:=dP;have ha:=Kw.out;rw[aC (by rw[HSS.out];omega)]at o0 ha;have HA:=aa ha;clear ha Kw;go_wp2_with fail;go_loopw [41] (λv wr=>∃p:Nat,p<=n/\v= .int .i64 p/\Own mR 1 3 wr (w.heap.size+1) (some ⟨w.heap.size+1,0,none⟩) n n (lM n (h.slots++(h.cells.take p).flatMap (·.parts)))/\(h.slots++(h.cells.take p).flatMap (·.parts)).all (inR h)=true/\Blk wr w.heap.size 28 [.slice A n c,.slice Am nm cm,.slice As m ca,h.copies]/\Below w.heap.size w wr) (λv _=>n - (intOf v).toNat)
   case atStart=>exact⟨0,by omega,rfl,by simpa using o0,by simpa using HA.out,kh,bb⟩
   case round=>
    clear kh o0 bb g0 g1 g2 g3;obtain⟨p,hp,rfl,o0,jb,kh,bb⟩:=hrel;obtain⟨g0,g1,g2,g3⟩:=kh.c4;have Kw:=aa jb;clear jb;by_cases hlp:p<n
    ·obtain⟨b,off,x,Ai,ni,ci,Ap,np,cp,An,nn,cn,Ac,nc,cc,Al,nl,cl,Aq,nq,cq,rfl,gD,hx,fE,e0,e1,e2,e3,e4,e5,e6,e7,e8,e9⟩:=lm (fF rc bb) hlp;obtain⟨_,_,_,_,_,_,_,_,_,_,_,_,_,_,_,_,_,_,lK,_,_,rq⟩:=i8 fE;simp only[bF,bG,dy,cO]at lK;obtain⟨⟨rfl,rfl,rfl⟩,⟨rfl,rfl,rfl⟩,⟨rfl,rfl,rfl⟩,⟨rfl,rfl,rfl⟩,⟨rfl,rfl,rfl⟩,rfl,rfl,rfl⟩:=lK;obtain⟨WQ,Yp,Xi,he,_,hqm,hq,_⟩:=(qy _ _ _ _).1 rq;injection he with he;injection he with f1 f2 f3;subst f1 f2 f3
     have mD:x.parts.length=nq:=hq.len;have xe:(h.slots++(h.cells.take p).flatMap (·.parts)).length+nq<=4194304:=by have:=Kc (h:=h) hx;omega
     have RQ0:Reads mR 1 w w.heap.size Aq nq x.parts:=hq.keep (λp hp=>(bb.cell hp).symm);have RQ:=aa RQ0;clear RQ0;have HX:=aa hx;have Mn:=aa mD;have TN:=aa xe;have hnq:nq<=4194304:=dP;have z0:=bb.size;have yb:b<wr.heap.size:=dP;have yh:=kh.lt;have ip:(p:Int)<(n:Int):=dP;have OG:=kh.al (o:= .cells #[x.count,x.value.kind,.slice Ai ni ci,.slice Ap np cp,.slice An nn cn,.slice Ac nc cc,.slice Al nl cl,x.value.code,x.value.env,.slice Aq nq cq] 43);have zi:=gT (o:= .cells #[x.count,x.value.kind,.slice Ai ni ci,.slice Ap np cp,.slice An nn cn,.slice Ac nc cc,.slice Al nl cl,x.value.code,x.value.env,.slice Aq nq cq] 43) bb z0;have o2:=o0.al (o:= .cells #[x.count,x.value.kind,.slice Ai ni ci,.slice Ap np cp,.slice An nn cn,.slice Ac nc cc,.slice Al nl cl,x.value.code,x.value.env,.slice Aq nq cq] 43);clear hx mD xe rq;go_wp2_with fail;clear e0 e1 e2 e3 e4 e5 e6 e7 e8 e9 g0 g1 g2 g3;obtain⟨wo,hwo⟩:∃wo:World,wo=wr:=⟨_,rfl⟩;subst hwo;go_loopw [48] (λv wr=>∃q:Nat,q<=nq/\v= .int .i64 q/\Own mR 1 3 wr (w.heap.size+1) (some ⟨w.heap.size+1,0,none⟩) n n (lM n ((h.slots++(h.cells.take p).flatMap (·.parts))++x.parts.take q))/\(x.parts.take q).all (inR h)=true/\Blk wr w.heap.size 28 [.slice (some ⟨b,off,none⟩) n c,.slice Am nm cm,.slice As m ca,h.copies]/\Below w.heap.size w wr) (λv _=>nq - (intOf v).toNat)
     case atStart=>exact⟨0,by omega,rfl,by simpa using o2,by simp,OG,zi⟩
     case round=>
      clear OG o2 zi;obtain⟨q,hqq,rfl,o2,jb,OG,zi⟩:=hrel;obtain⟨g0,g1,g2,g3⟩:=OG.c4;have HAQ:=aa jb;clear jb;by_cases hlq:q<nq
      ·obtain⟨b3,o3,k,rfl,lE,hk,xO⟩:=(RQ.out.below zi).atI hlq;have iq:(q:Int)<(nq:Int):=dP;by_cases hin:0<=k/\k<(n:Int)
       ·obtain⟨i,rfl⟩:∃i:Nat,k=i:=⟨k.toNat,by omega⟩;have hi:i<n:=dP;obtain⟨v,hv,hv0,Nk⟩:=Cv (l:=(h.slots++(h.cells.take p).flatMap (·.parts))++x.parts.take q) hi;have hvb:v<=4194304:=by have:=TN.out;have:=dO q x.parts;rw[aY,de,Mn.out]at Nk;omega
        obtain⟨_,_,v',e1,_,xg,AA⟩:=(o2.reads iu).atI hi;injection e1 with e1;injection e1 with e1 e2;subst e1 e2
        rw[hv]at xg;injection xg with xg;subst xg
        rw[bI]at AA;have zf:=(o2.fil).1.frozen i;have HV:=aa hv;have HK:=aa hk;have i1:(i:Int)<(n:Int):=dP;have i0:(0:Int)<=(i:Int):=dP;have jC:¬(n:Int)<=(i:Int):=dP;clear hin hv hk Nk;go_wp2_with fail;go_roundw
        case rel=>
         have o3:=Own.set_ iu o2 i 0 v (v+1) (.int .i64 (v+1)) HV.out dP rfl;rw[cu,cF]at o3;have hvc:v=((List.count (i:Int) ((h.slots++(h.cells.take p).flatMap (·.parts))++x.parts.take q):Nat):Int):=by have:=pM ((h.slots++(h.cells.take p).flatMap (·.parts))++x.parts.take q) hi;rw[HV.out]at this;injection this
         refine⟨q+1,by omega,by go_num,?_,?_,?_,?_⟩
         ·rw[eJ HK.out,<-aS,<-wJ _ hi,<-hvc];exact o3
         ·exact iY HK.out HAQ.out wh
         ·exact OG.pk ig
         ·exact ie zi ig
        case measure=>simp [intOf];omega
       ·have DL:=PD (h:=h) hk (by rw[HL.out];exact hin);have HN:Hid ((refs h).all (inR h)=false):=aa (YM HX.out DL);by_cases h0:k<0
        ·clear hin DL hk;go_wp2_with fail;go_ret2;exact .inl ⟨HN.out,rfl,zi⟩
        ·have h1:(n:Int)<=k:=dP;clear hin DL hk;go_wp2_with fail;go_ret2;exact .inl ⟨HN.out,rfl,zi⟩
      ·obtain rfl:q=nq:=dP;have e1:h.slots++(h.cells.take (p+1)).flatMap (·.parts)=(h.slots++(h.cells.take p).flatMap (·.parts))++x.parts.take q:=Hg;have E1:=aa e1;clear e1;go_wp2_with fail;go_roundw
       case rel=>exact⟨p+1,by omega,by go_num,by rw[E1.out];exact o2,by rw[E1.out,List.all_append,Kw.out,HAQ.out];rfl,OG,zi⟩
       case measure=>simp [intOf];omega
    ·obtain rfl:p=n:=dP;rw[aC ji]at o0;have ha:=Kw.out;rw[aC ji]at ha;have HA2:=aa ha;clear ha;go_wp2_with fail;go_ret2;refine .inr ⟨HA2.out,w.heap.size+1,p,?_,?_,bb⟩
     ·exact YN (by rw[HL.out];rfl) rfl
     ·rw[HL.out];exact o0.mono dP
def qU (h:Hp):Nat->Int->Prop
 |0,k=>inR h k=true/\(celD h k).parts=[]
 |d+1,k=>inR h k=true/\(celD h k).parts.length<=40/\∀p∈(celD h k).parts,qU h d p
def LessP (h h':Hp):Prop:=h'.cells.length=h.cells.length/\∀k,(celD h' k).parts=(celD h k).parts\/(celD h' k).parts=[]
theorem LessP.refl {h:Hp}:LessP h h:=⟨rfl,λ_=> .inl rfl⟩
theorem LessP.trans {h h' h'':Hp} (a:LessP h h') (b:LessP h' h''):LessP h h'':=⟨b.1.trans a.1,λk=>by
 rcases b.2 k with e|e
 ·rw[e];exact a.2 k
 ·exact .inr e⟩
theorem DU {h h':Hp} (a:LessP h h') {k:Int}:inR h' k=inR h k:=by unfold inR;rw[a.1]
theorem qJ {h h':Hp} (a:LessP h h'):∀{d:Nat} {k:Int},qU h d k->qU h' d k
 |0,k,e=>by
  rw[qU]at e ⊢;refine⟨by rw[DU a];exact e.1,?_⟩;rcases a.2 k with h1|h1
  ·rw[h1];exact e.2
  ·exact h1
 |d+1,k,e=>by
  rw[qU]at e ⊢;refine⟨by rw[DU a];exact e.1,?_,λp hp=>?_⟩
  ·rcases a.2 k with h1|h1
   ·rw[h1];exact e.2.1
   ·rw[h1];simp
  rcases a.2 k with h1|h1
  ·rw[h1]at hp;exact qJ a (e.2.2 p hp)
  ·rw[h1]at hp;simp at hp
theorem fQ {h:Hp} {i:Nat} {x:Cel} (hi:i<h.cells.length) (k:Int):celD (eG h i x) k=if k=(i:Int) then x else celD h k:=by
 unfold celD;by_cases hk:0<=k
 ·obtain⟨j,rfl⟩:=bQ hk;rw[aN hk,aN hk,aU];show ((h.cells.set i x)[j]?).getD _=_;by_cases hj:j=i
  ·subst hj;rw[aN rfl,List.getElem?_set_self hi];rfl
  ·rw[aH dP,List.getElem?_set_ne (Ne.symm hj)]
 ·rw[aH hk,aH hk,aH dP]
theorem qN {h:Hp} {i:Nat} {x:Cel} (hi:i<h.cells.length) (hx:x.parts=(celD h (i:Int)).parts\/x.parts=[]):LessP h (eG h i x):=⟨by simp,λk=>by
 rw[fQ hi];split
 ·rename_i e;subst e;exact hx
 ·exact .inl rfl⟩
def sJ (h:Hp) (B:Nat):Prop:=∀k,-(B:Int)<=(celD h k).count/\(celD h k).count<=1152921504606846976
theorem AK {h:Hp} {B C:Nat} (hb:sJ h B) (hC:B<=C):sJ h C:=λk=>⟨by have:=(hb k).1;omega,(hb k).2⟩
theorem AL {h:Hp} {B:Nat} {i:Nat} {x:Cel} (hi:i<h.cells.length) (hb:sJ h B) (hx: -(B:Int)<=x.count/\x.count<=1152921504606846976):sJ (eG h i x) B:=λk=>by
 rw[fQ hi];split
 ·exact hx
 ·exact hb k
theorem PY:∀(f d:Nat) (h:Hp) (k:Int) (B:Nat),qU h d k->d<f->sJ h B->B+41 ^ f<=1152921504606846976->relOK f h k/\LessP h (iD f h k)/\sJ (iD f h k) (B+41 ^ f)
 |0,d,h,k,B,_,hf,_,_=>by omega
 |f+1,d,h,k,B,hd,hf,hb,hB=>by
  have hin:inR h k=true:=wg;obtain⟨i,x,rfl,hil,hx,ld⟩:=kU hin;have R7:=hb (i:Int);rw[ld]at R7;have hsk:x.parts.length<=40:=by
   cases d with
   |zero=>rw[qU,ld]at hd;rw[hd.2];simp
   |succ d=>rw[qU,ld]at hd;exact hd.2.1
  have ahL:41 ^ (f+1)=41 ^ f*41:=Nat.pow_succ 41 f;have hpos:0<41 ^ f:=Nat.pow_pos dP;rw[relOK,iD,ld,aU];by_cases hp:0<x.count - 1
  ·rw[aN hp];refine⟨⟨hin,⟨by omega,R7.2⟩,.inl hp⟩,qN hil (.inl (by rw[ld];rfl)),AK (B:=B) (AL hil hb ⟨by show _<=x.count - 1;omega,by show x.count - 1<=_;omega⟩) dP⟩
  ·rw[aH hp];have l1:LessP h (eG h i lf):=qN hil (.inr rfl);have b1:sJ (eG h i lf) B:=AL hil hb ⟨by show _<=(0:Int);omega,by show (0:Int)<=_;omega⟩;have iU:∀(l:List Int) (g:Hp) (C:Nat),(∀p∈l,∃d',d'<f/\qU g d' p)->sJ g C->C+l.length*41 ^ f<=1152921504606846976->allOK (relOK f) (iD f) g l/\LessP g (l.foldl (iD f) g)/\sJ (l.foldl (iD f) g) (C+l.length*41 ^ f):=by
    intro l
    induction l with
    |nil=>intro g C _ hc _;exact⟨bO,LessP.refl,by simpa using hc⟩
    |cons p t ih=>
     intro g C hl hcg hC;obtain⟨d',hd',QO⟩:=hl p aT;have e1:(p::t).length*41 ^ f=t.length*41 ^ f+41 ^ f:=by rw[bU,Nat.succ_mul]
     rw[e1]at hC ⊢;obtain⟨r1,r2,r3⟩:=PY f d' g p C QO hd' hcg dP;obtain⟨s1,s2,s3⟩:=ih (iD f g p) (C+41 ^ f) (λq hq=>by obtain⟨d2,h2,h3⟩:=hl q (aP _ hq);exact⟨d2,h2,qJ r2 h3⟩) r3 dP
     refine⟨⟨r1,s1⟩,r2.trans s2,?_⟩;rw[bC];exact AK s3 dP
   have aho:x.parts.length*41 ^ f<=40*41 ^ f:=dd _ hsk;obtain⟨s1,s2,s3⟩:=iU x.parts (eG h i lf) B (λp Mb=>yA) b1 dP;exact⟨⟨hin,⟨by omega,R7.2⟩,.inr s1⟩,l1.trans s2,AK s3 dP⟩
end Go.Proofs.YtekcpadlmfaihaaGreat
