/- Draws of heap operations, further. -/
import Derived.Test.YtekcpadlmfaihaaGreatVQe
import Derived.Test.YtekcpadlmfaihaaGreatVNf
import Derived.Test.YtekcpadlmfaihaaGreatVQg
import Derived.Test.YtekcpadlmfaihaaGreatVHye
import Derived.Test.YtekcpadlmfaihaaGreatVHyf
import Derived.Test.YtekcpadlmfaihaaGreatVNhp
import Derived.Test.YtekcpadlmfaihaaGreatVNsu
import Derived.Test.YtekcpadlmfaihaaGreatVLn
import Derived.Test.YtekcpadlmfaihaaGreatVNsp
import Derived.Test.YtekcpadlmfaihaaGreatVLd
import Derived.Test.YtekcpadlmfaihaaGreatVLx
import Derived.Test.YtekcpadlmfaihaaGreatVLi
namespace Go.Proofs.YtekcpadlmfaihaaGreat
open Go.RowKit Proofs.Tryz
set_option maxHeartbeats 8000000
set_option maxRecDepth 100000
set_option linter.unusedSimpArgs false
set_option linter.unusedVariables false
variable {x:Hop} {h:Hp} {kd pt:Int} {c n:Nat} {A:Option Addr} {fr nm s:Str} {v:Vec} {w:World}
theorem ab4 (g:Nat) (w:World) (hc:CuA A n c w g):Calls prog 35 #[.pointer (some ⟨g,0,none⟩)] w λe w'=>DO 175000 A n c w g e w':=by
 obtain⟨V0,V1,yi,M0⟩:=Mem.inCur hc;have hC:=aa yi;clear yi hc;have M:=M0.up [];go_enter func35,ntmps35;refine Sq (Sa M (λJ1 wv M=>Sz (Sq ?_)));refine Sb M [] 1 ?_;replace M:=M.up [2,2];refine Sc (ac_ hC.out M (λhc=>abI g _ hc) λJ2 wv M=>Sp ?_);refine Sa M (λJ3 wv M=>?_);refine Ss M 0 (λwv M=>Sz ?_);have hzo:=M.pr 3 rfl;rw[wG]at hzo;replace M:=M.up [4];obtain⟨wk,wn,wf,wa,wvk,wvc,wve,M⟩:=Mem.openHop M;replace M:=M.up [];refine ae (Sq (Sb M [] 1 ?_));replace M:=M.up [3,3];refine Sc (v5 hC.out M (λhc=>ne g 12 _ hc dP dP) λJ4 wv acG M=>Sp (Sz (aJ ?_)));refine Ra M [] ?_;refine lW (λh8=>?_) (λh8=>?_)
 ·rw[h8];replace h8:=aa h8;refine Sg (Sb M [] 1 ?_);refine Sc (v5 hC.out M (λhc=>ne g 6 _ hc dP dP) λJ5 wv adF M=>Sp ?_);refine Sb M [] 2 ?_;refine Ss M 3 (λwv M=>Sy (fA (dV (Sq ?_))));refine Sb M [3] 1 ?_;refine Ss M 5 (λwv M=>Sz (aO ?_));refine kN results35 M 5 ?_;have MZ:=M.sel [2,0,1] dQ;simp only[lH,bH,bY,ah,ag]at MZ;have MZ:=Mem.joinHop (x:=⟨(((J5.c:Nat):Int) - 1),(J2.O).name,(J2.O).frm,(J2.O).at_,(J2.O).value⟩) MZ (kP.2 tc) wn wf wa;exact Mem.outHop hC.out (MZ.up [2,2]) v1
 ·rw[h8];replace h8:=aa h8;refine Ra M [] ?_;refine lW (λh14=>?_) (λh14=>?_)
  ·rw[h14];replace h14:=aa h14;refine Sg (Sb M [] 1 ?_);refine Sa M (λJ6 wv M=>?_);replace M:=M.up [2,2];refine Sc (Hn (l:=[0,41,40,(-1)]) hC.out M rfl rfl dQ dQ λJ7 wv M=>Sp ?_);refine Sb M [] 1 ?_;refine Ss M 4 (λwv M=>Sy (fA (dV (Sq ?_))));refine Sb M [4] 1 ?_;refine Ss M 6 (λwv M=>Sz (aO ?_));refine kN results35 M 6 ?_;have Nc:=M.pr 2 rfl;simp only[aX,df,ce]at Nc;have MZ:=M.sel [3,0,1] dQ;simp only[lH,bH,bY,ah,ag]at MZ;have MZ:=Mem.joinHop (x:=⟨(J2.O).kind,(J2.O).name,(J2.O).frm,(J7.Z),(J2.O).value⟩) MZ wk wn wf (kP.2 tc);exact Mem.outHop hC.out (MZ.up [2,2]) v1
  ·rw[h14];replace h14:=aa h14;refine Ra M [] ?_;refine lW (λh20=>?_) (λh20=>?_)
   ·rw[h20];replace h20:=aa h20;refine Sg (Sb M [] 1 ?_);refine Sa M (λJ8 wv M=>?_);replace M:=M.up [2,2];refine Sc (abP (l:=[[],[120],[113]]) hC.out M rfl rfl dQ dQ λJ9 wv M=>Sp ?_);refine Sb M [] 1 ?_;refine Ss M 4 (λwv M=>Sy (fA (dV (Sq ?_))));refine Sb M [4] 1 ?_;refine Ss M 6 (λwv M=>Sz (aO ?_));refine kN results35 M 6 ?_;have ag0:=M.pr 2 rfl;have alI:J9.S.length<=1:=by simp only[aX,df,ce]at ag0;rcases ag0 with h|h|h<;>rw[h]<;>decide
    have MZ:=M.sel [3,0,1] dQ;simp only[lH,bH,bY,ah,ag]at MZ;have MZ:=Mem.joinHop (x:=⟨(J2.O).kind,(J2.O).name,(J9.S),(J2.O).at_,(J2.O).value⟩) MZ wk wn u9 wa;exact Mem.outHop hC.out (MZ.up [2,2]) v1
   ·rw[h20];replace h20:=aa h20;refine Ra M [] ?_;refine lW (λQM=>?_) (λQM=>?_)
    ·rw[QM];replace QM:=aa QM;refine Sg (Sb M [] 1 ?_);refine Sc (Hs hC.out M (λhc=>acN g _ hc) λmO wv M=>Sp ?_);refine Sb M [] 1 ?_;refine Ss M 5 (λwv M=>Sy (fA (dV (Sq ?_))));refine Sb M [5] 1 ?_;refine Ss M 7 (λwv M=>Sz (aO ?_));refine kN results35 M 7 ?_;have hzw:=M.pr 2 rfl;have MZ:=M.sel [3,0,1] dQ;simp only[lH,bH,bY,ah,ag]at MZ;have MZ:=Mem.joinHop (x:=⟨(J2.O).kind,(J2.O).name,(J2.O).frm,(J2.O).at_,(mO.V)⟩) MZ wk wn wf wa;exact Mem.outHop hC.out (MZ.up [2,2]) v1
    ·rw[QM];replace QM:=aa QM;refine bd (fA (dV (Sq (Sb M [3] 1 ?_))));refine Ss M 5 (λwv M=>Sz (aO ?_));refine kN results35 M 5 ?_;have MZ:=M.sel [2,0,1] dQ;simp only[lH,bH,bY,ah,ag]at MZ;have MZ:=Mem.joinHop (x:=⟨(J2.O).kind,(J2.O).name,(J2.O).frm,(J2.O).at_,(J2.O).value⟩) MZ wk wn wf wa;exact Mem.outHop hC.out (MZ.up [2,2]) v1
def StI (h:Hp) (x:Hop) (R:Hp) (r:Str):Prop:=∀(cs cx:List Value) (w:World),rep w w.heap.size h.toD cs->rep w w.heap.size x.toD cx->Calls prog 10 #[av cs,av cx] w (eH R.toD 28 (sv r) w)
def StS (h:Hp) (x:Hop) (R:Hp) (r:Str):Prop:=∀(cs cx:List Value) (w:World),rep w w.heap.size h.toD cs->rep w w.heap.size x.toD cx->Calls prog 11 #[av cs,av cx] w (eH R.toD 28 (sv r) w)
def Gr (h:Hp) (x:Hop) (R:Hp) (r:Str):Prop:=szD R.toD<=szD h.toD+2*szD x.value.toD+30000/\(h.copies<=1000->fG R=true/\R.copies<=h.copies+1/\(GD h->GD R)/\Keeps h R x.name/\(r=[]->x.kind=2->hasN h x.name=true/\R.copies=h.copies+(if (celD h (slotD h x.name)).count=1 then 0 else 1)))
theorem Gr.same {r:Str} (hk:fG h=true) (hr:r=[]->False):Gr h x h r:=⟨by omega,λ_=>⟨hk,by omega,λG=>G,Keeps.refl (SL.of hk),λe=>absurd e hr⟩⟩
theorem La (h:je ⟨kd,nm,fr,pt,v⟩=true):isNm nm=true:=by simp only[je,ax]at h;exact h.1.1.1
theorem zS (hn:¬hasN h s=true):cellD h s= -1/\ix h.names s 0<0:=by refine⟨by unfold cellD;rw[aH hn],?_⟩;simp only[hasN,aL]at hn;omega
structure SF (h:Hp) (s:Str) (p i:Nat) (x:Cel):Prop where
 at_:ix h.names s 0=(p:Int)
 slot:h.slots[p]?=some (i:Int)
 sd:slotD h s=(i:Int)
 cd:cellD h s=(i:Int)
 cel:h.cells[i]?=some x
 dep:depD h 3 (i:Int)=true
 vec:isVec (asm h 3 (i:Int))=true
 fit:fitP h 3 (i:Int)
 val:x.value=noParts (asm h 3 (i:Int))
 par:(asm h 3 (i:Int)).parts.length=x.parts.length
 sz:szD x.value.toD<=10000
theorem wR (hk:fG h=true):∀x∈h.cells,x.value.parts=[]:=by obtain⟨h1,h2,h3⟩:=jc hk;intro x hx;obtain⟨i,hi⟩:=List.getElem?_of_mem hx;have h4:=iC.1 h2 i x hi;simp only[m9,ax,aL]at h4;exact aR.1 h4.1.2
theorem SF.of (hk:fG h=true) (hn:hasN h s=true):∃(p i:Nat) (x:Cel),SF h s p i x:=by
 obtain⟨p,hp,mD,hs,h0,hl,hd,hv⟩:=BA hk hn;obtain⟨i,hi⟩:=bQ h0;rw[hi]at hs hd hv hl;have hil:i<h.cells.length:=dP;have hx:h.cells[i]?=some h.cells[i]:=aw hil;have ld:=iI hx;have rk:=wR hk _ (dA hil);have e:asm h 3 (i:Int)={h.cells[i].value with parts:=h.cells[i].parts.map (asm h 2)}:=by rw[asm,ld]
 have ev:h.cells[i].value=noParts (asm h 3 (i:Int)):=by rw[e];exact(qE rk).symm
 refine⟨p,i,h.cells[i],hp,hs,hi,by unfold cellD;rw[aN hn,hi],hx,hd,hv,by rw[<-hi];exact tS hk hn,ev,by rw[e];simp,?_⟩;rw[ev];exact BD hv
theorem Vp (h:isNm s=true):1<=s.length/\s.length<=20:=by unfold isNm at h;simp only[ax,aL]at h;exact h.2
theorem sX (h:je ⟨kd,nm,fr,pt,v⟩=true):(1<=nm.length/\nm.length<=20)/\isVec v=true/\(kd=0\/kd=1\/kd=2\/kd=3)/\(kd=2->(1<=pt/\pt<=40)/\(1<=v.kind/\v.kind<=3)/\v.items.length=1)/\(kd=3->1<=fr.length/\fr.length<=20):=by
 simp only[je,ax,AV]at h;obtain⟨⟨⟨h1,h2⟩,h3⟩,h4⟩:=h;refine⟨Vp h1,h2,?_,λe=>?_,λe=>?_⟩
 ·by_cases e0:kd=0
  ·exact .inl e0
  ·rw[aH e0]at h4;by_cases e2:kd=2
   ·exact .inr (.inr (.inl e2))
   ·rw[aH e2]at h4;by_cases e3:kd=1\/kd=3
    ·omega
    ·rw[aH e3]at h4;cases h4
 ·rw[aH dP,aN e]at h4;simp only[ax,aL,atomK]at h4;exact⟨h4.1.1.2,h4.1.2,h4.2⟩
 ·rw[aH dP,aH dP,aN (.inr e)]at h4;simp only[ax]at h4;exact Vp h4.1
theorem UT {j:Nat} {y:Cel} (e:h.cells[j]?=some y):szD (eG h j (gE y)).toD<=szD h.toD:=by have g:=wT h j (gE y);rw[iI e,Bu,Bu]at g;have e1:(gE y).value=y.value:=rfl;have e2:(gE y).parts=y.parts:=rfl;rw[e1,e2]at g;omega
theorem RK (hk:fG h=true) (hz:szD h.toD<=4194304) (hx:je ⟨0,nm,fr,pt,v⟩=true):∃(R:Hp) (r:Str),StI h ⟨0,nm,fr,pt,v⟩ R r/\StS h ⟨0,nm,fr,pt,v⟩ R r/\Gr h ⟨0,nm,fr,pt,v⟩ R r:=by
 obtain⟨hnm,hv,-,-,-⟩:=sX hx;have ZJ:=(i6 hv).1;obtain⟨z1,z2⟩:=sV hz;have hl:=(jc hk).1;obtain⟨h1,k,e,p1,p2,p3,p4,p5⟩:=Xc hk hz nm v ZJ (by have:=vz hv;omega);exact⟨fd h1 nm k,[],λcs cx w a b=>Iy h nm fr pt v _ _ h1 k hz hk hl hx (eC hv) rfl rfl cs cx w a b e p1 p2 p3 p4 p5,
  λcs cx w a b=>I0 h nm fr pt v _ _ h1 k hz hk hl dP (wR hk) hx (eC hv) rfl rfl cs cx w a b e p1 ZJ p2 p3 p4 p5,by have g1:=UP 4 h v;have g2:=Ld h1 nm k;rw[e]at g1;refine⟨by simp only at g1;show szD _<=szD h.toD+2*szD v.toD+30000;omega,λ_=>?_⟩;obtain⟨q1,q2,q3,q4⟩:=TZ hk hz (La hx) hv e;exact⟨q1,by omega,q3,q4,λ_ e=>absurd (show (0:Int)=2 from e) dQ⟩⟩
theorem P7 (hk:fG h=true) (hz:szD h.toD<=4194304) (hx:je ⟨1,nm,fr,pt,v⟩=true):∃(R:Hp) (r:Str),StI h ⟨1,nm,fr,pt,v⟩ R r/\StS h ⟨1,nm,fr,pt,v⟩ R r/\Gr h ⟨1,nm,fr,pt,v⟩ R r:=by
 obtain⟨hnm,hv,-,-,-⟩:=sX hx;obtain⟨z1,z2⟩:=sV hz;have hl:=(jc hk).1;by_cases hf:hasN h fr=true
 ·obtain⟨p,i,x,S⟩:=SF.of hk hf;obtain⟨j,y,e1,e2,e3,e4,e5,-,-,e8⟩:=NV hk hz nm fr hf;have ej:(i:Int)=(j:Int):=by rw[<-S.sd,e2]
  exact⟨fd (eG h j (gE y)) nm (j:Int),[],λcs cx w a b=>vu h nm fr pt v _ _ _ _ hz hk hl hx (eC hv) rfl rfl cs cx w a b dP (.inr ⟨j,y,e1,e3,e4,e5,e8,rfl,rfl⟩),
   λcs cx w a b=>vZ h nm fr pt v _ _ _ _ hz hk hl dP (wR hk) hx (eC hv) rfl rfl cs cx w a b dP (.inr ⟨p,j,y,S.at_,by rw[<-ej];exact S.slot,e3,e4,e5,e8,rfl,rfl⟩),by have g1:=UT e3;have g2:=Ld (eG h j (gE y)) nm (j:Int);refine⟨by show szD _<=szD h.toD+2*szD v.toD+30000;omega,λ_=>?_⟩;obtain⟨q1,q2,q3,q4⟩:=S7 hk (La hx) e3 (by rw[<-ej];exact aA S.slot);exact⟨q1,by omega,q3,q4,λ_ e=>absurd (show (1:Int)=2 from e) dQ⟩⟩
 ·obtain⟨n1,n2⟩:=zS hf;exact⟨h,_,λcs cx w a b=>vu h nm fr pt v _ _ _ _ hz hk hl hx (eC hv) rfl rfl cs cx w a b dP (.inl ⟨by omega,rfl,rfl⟩),
   λcs cx w a b=>vZ h nm fr pt v _ _ _ _ hz hk hl dP (wR hk) hx (eC hv) rfl rfl cs cx w a b dP (.inl ⟨n2,rfl,rfl⟩),Gr.same hk abp⟩
theorem Oo (hk:fG h=true) (hz:szD h.toD<=4194304) (hx:je ⟨2,nm,fr,pt,v⟩=true):∃(R:Hp) (r:Str),StI h ⟨2,nm,fr,pt,v⟩ R r/\StS h ⟨2,nm,fr,pt,v⟩ R r/\Gr h ⟨2,nm,fr,pt,v⟩ R r:=by
 obtain⟨hnm,hv,-,h2,-⟩:=sX hx;obtain⟨hpt,hvk,tx⟩:=h2 rfl;obtain⟨z1,z2⟩:=sV hz;have hl:=(jc hk).1;have rk:=wR hk;by_cases hn:hasN h nm=true
 ·obtain⟨p,i,x,S⟩:=SF.of hk hn;have ld:=iI S.cel;obtain⟨rv,rs,⟨SI,SS⟩,mP⟩:∃(rv:Vec) (rs:Str),wH (asm h 3 (i:Int)) v pt rv rs/\(rs=[]->(rv.kind=4↔(asm h 3 (i:Int)).kind=4)/\isVec rv=true):=by
   by_cases h5:(asm h 3 (i:Int)).kind=5
   ·exact⟨_,_,Qb S.vec hv h5,λe=>by cases e⟩
   ·exact N8 S.vec hv hvk tx hpt h5
  obtain⟨OK,k,x2,o1,o2,o3,-,o5,-,-⟩:=VA (s:=nm) hl dP hn (by rw[S.sd];exact S.fit) (λk=>by have:=xP hk hz k;omega) (by rw[S.sd,ld];exact rk _ (aA S.cel)) (by rw[S.sd,ld];have:=S.sz;omega) z1;have key:∀R r,((rs.isEmpty=false/\R=h/\r=rs)\/(rs=[]/\(asm h 3 (i:Int)).kind=4/\R=h/\r=[110,111,116,32,97,110,32,97,116,111,109,105,99,32,118,101,99,116,111,114])\/(rs=[]/\¬(asm h 3 (i:Int)).kind=4/\R=eG (iz h nm).1 k (⟨x2.count,rv,x2.parts⟩:Cel)/\r=[]))->StI h ⟨2,nm,fr,pt,v⟩ R r/\StS h ⟨2,nm,fr,pt,v⟩ R r:=by
   intro R r hc;refine⟨λcs cx w a b=>uH h nm fr pt v _ _ R r _ rv rs hz hk hl hx (eC hv) rfl rfl cs cx w a b hpt (.inr ⟨i,S.cd,S.dep,rfl,SI,?_⟩),
    λcs cx w a b=>uJ h nm fr pt v _ _ R r _ rv rs hz hk hl dP rk hx (eC hv) rfl rfl cs cx w a b hpt (.inr ⟨p,i,S.at_,S.slot,S.dep,rfl,SS,?_⟩)⟩
   ·rcases hc with hc|hc|⟨c1,c2,c3,c4⟩
    ·exact .inl hc
    ·exact .inr (.inl hc)
    ·exact .inr (.inr ⟨c1,c2,(iz h nm).1,k,x2,λg F W H=>by have:=Q9 h nm g F W H eb OK;rw[o1]at this;exact this,o2,c3,c4⟩)
   ·rcases hc with hc|⟨c1,c2,c3,c4⟩|⟨c1,c2,c3,c4⟩
    ·exact .inl hc
    ·exact .inr (.inl ⟨c1,(mP c1).1.2 c2,c3,c4⟩)
    ·exact .inr (.inr ⟨c1,λe=>c2 ((mP c1).1.1 e),(i6 (mP c1).2).1,by have:=vz (mP c1).2;omega,(iz h nm).1,k,x2,λg F W H=>by have:=Ed h nm g F W H eb OK;rw[o1]at this;exact this,o2,c3,c4⟩)
  by_cases e:rs=[]
  ·by_cases h4:(asm h 3 (i:Int)).kind=4
   ·obtain⟨k1,k2⟩:=key _ _ (.inr (.inl ⟨e,h4,rfl,rfl⟩));exact⟨_,_,k1,k2,Gr.same hk abp⟩
   ·obtain⟨k1,k2⟩:=key _ _ (.inr (.inr ⟨e,h4,rfl,rfl⟩));refine⟨_,_,k1,k2,?_⟩;obtain⟨q1,q2⟩:=mP e;have q3:¬rv.kind=4:=λz=>h4 (q1.1 z);have F:=jf q2;have q4:rv.parts=[]:=by
     rcases bz rv.parts.length with z|z
     ·exact aR.1 z
     ·exact absurd (F.np z) q3
    have q5:=BD q2;have q6:noParts rv=rv:=qE q4;rw[q6]at q5;have g1:=wT (iz h nm).1 k (⟨x2.count,rv,x2.parts⟩:Cel);have g2:=UO h nm;rw[S.sd,ld,Bu]at g2;rw[S.sd,ld]at o5;rw[Bu (⟨x2.count,rv,x2.parts⟩:Cel)]at g1;have g3:=S.sz;have g4:x.parts.length<=40:=by rw[<-S.par];have:=(jf S.vec).len;omega
    have g5:x2.parts.length<=40:=by rw[o5];exact g4
    simp only at g1;have TE:x.parts=[]:=by
     have h7:=S.fit;rcases bz x.parts.length with z|z
     ·exact aR.1 z
     ·have h8:=(jf S.vec).np (by rw[S.par];exact z);exact absurd h8 h4
    exact⟨by show szD _<=szD h.toD+2*szD v.toD+30000;omega,λhc=>by obtain⟨u1,u2,u3,u4,u5⟩:=Y0 hk hn (La hx) o1 o2 o3 (by rw[o5];exact TE) q2 q4 hc;exact⟨u1,u2,u3,u4,λ_ _=>⟨hn,u5⟩⟩⟩
  ·obtain⟨k1,k2⟩:=key _ _ (.inl ⟨by cases rs;exact absurd rfl e;rfl,rfl,rfl⟩);exact⟨_,_,k1,k2,Gr.same hk e⟩
 ·obtain⟨n1,n2⟩:=zS hn;exact⟨h,_,λcs cx w a b=>uH h nm fr pt v _ _ _ _ zeroV zeroV [] hz hk hl hx (eC hv) rfl rfl cs cx w a b hpt (.inl ⟨by omega,rfl,rfl⟩),
   λcs cx w a b=>uJ h nm fr pt v _ _ _ _ zeroV zeroV [] hz hk hl dP rk hx (eC hv) rfl rfl cs cx w a b hpt (.inl ⟨n2,rfl,rfl⟩),Gr.same hk abp⟩
theorem VD (hk:fG h=true) (hz:szD h.toD<=4194304) (hx:je ⟨3,nm,fr,pt,v⟩=true):∃(R:Hp) (r:Str),StI h ⟨3,nm,fr,pt,v⟩ R r/\StS h ⟨3,nm,fr,pt,v⟩ R r/\Gr h ⟨3,nm,fr,pt,v⟩ R r:=by
 obtain⟨hnm,hv,-,-,h3⟩:=sX hx;have Tw:=h3 rfl;obtain⟨z1,z2⟩:=sV hz;have hl:=(jc hk).1;have rk:=wR hk;have lJ:=eC hv;by_cases hn:hasN h nm=true
 ·obtain⟨p,i,xi,S⟩:=SF.of hk hn;by_cases hf:hasN h fr=true
  ·obtain⟨q,j,xj,T⟩:=SF.of hk hf;obtain⟨j',y',e1,e2,e3,e4,e5,K1,B1,-⟩:=NV hk hz nm fr hf;obtain rfl:j'=j:=by have:=e2.symm.trans T.sd;omega
   obtain rfl:y'=xj:=by have:=e3.symm.trans T.cel;injection this
   have ei:xi.value.kind=(asm h 3 (i:Int)).kind:=by rw[S.val]
   have ej:y'.value.kind=(asm h 3 (j':Int)).kind:=by rw[T.val]
   obtain⟨rI,rS,rs,FI,FS,mP⟩:=Pi (nm:=fr) S.vec T.vec ⟨Tw.1,by omega⟩;have hi:=S.cd;by_cases e:rs=[]
   ·subst e;by_cases h4:(asm h 3 (i:Int)).kind=4
    ·by_cases h0:(asm h 3 (j':Int)).kind=0
     ·exact⟨h,_,λcs cx w a b=>mE h nm fr pt v _ _ _ _ _ _ rI [] hz hk hl hx lJ rfl rfl cs cx w a b (.inr (.inr ⟨i,j',S.cd,T.cd,S.dep,rfl,T.dep,rfl,FI,.inr (.inr (.inl ⟨rfl,h4,h0,rfl,rfl⟩))⟩)),
       λcs cx w a b=>mN h nm fr pt v _ _ _ _ _ _ rS [] hz hk hl dP rk hx lJ rfl rfl cs cx w a b (.inr (.inr ⟨p,q,i,j',xi,y',S.at_,T.at_,S.slot,T.slot,S.cel,T.cel,S.dep,rfl,T.dep,rfl,FS,.inr (.inr (.inl ⟨rfl,by rw[ei];exact h4,by rw[ej];exact h0,rfl,rfl⟩))⟩)),Gr.same hk abp⟩
     ·obtain⟨m,hm40,hmp,hrS,gF⟩:=mP rfl h4 h0;have hjl:=(ay.1 T.cel).1;have AA:(celD (eG h j' (gE y')) (i:Int)).value=xi.value:=by
       rw[fQ hjl];split
       ·next hij=>
        obtain rfl:i=j':=dP;have:=S.cel.symm.trans T.cel;injection this with this;rw[this];rfl
       ·rw[iI S.cel]
      have aa_:0<(celD h (i:Int)).count:=(sR S.fit).1;have hcp:(celD (eG h j' (gE y')) (i:Int)).parts=xi.parts:=by rw[(K1 _ aa_).1,iI S.cel]
      have X4:slotD (eG h j' (gE y')) nm=(i:Int):=S.sd;obtain⟨OK,k,x2,o1,o2,o3,o4,o5,o6,o7⟩:=VA (h:=eG h j' (gE y')) (s:=nm) hl (by show (h.names.length:Int)<=_;omega) hn (by rw[X4];exact qK K1 S.fit) B1 (by rw[X4,AA];exact rk _ (aA S.cel)) (by rw[X4,AA];have:=S.sz;omega) (by show (h.cells.set _ _).length<=_;rw[da];exact z1);rw[X4]at o4 o5;rw[AA]at o4;rw[hcp]at o5;obtain⟨OC,-⟩:=rm S.vec h4;have L:LV (asm h 3 (i:Int)).parts (asm h 3 (i:Int)).names (asm h 3 (i:Int)).cls:=LV.of (by rw[<-OC];exact S.vec);have ZL:x2.value.names=(asm h 3 (i:Int)).names:=by rw[o4,S.val]
      have TE:x2.parts.length=(asm h 3 (i:Int)).parts.length:=by rw[o5,S.par]
      have hxk:x2.value.kind=4:=by rw[o4,ei,h4]
      have hnl:x2.value.names.length<=40:=by rw[ZL];exact L.n60.1
      have mD:x2.parts.length<=40:=by rw[TE];exact L.l
      obtain⟨pn1,pn2⟩:=J_ (cls:=(asm h 3 (i:Int)).cls) (x:=asm h 3 (j':Int)) L.n Tw.1 hmp;rw[<-hrS,<-ZL]at pn1 pn2;rw[<-TE]at pn1;obtain⟨m',hm',hmq,-,hmo⟩:=E7 (nm:=fr) L.l L.n;have Nj:rS.names.length<=40:=pB (jf gF);have hlt:∀u:Nat,ix x2.value.names fr 0=(u:Int)->u<x2.parts.length:=λu hu=>by rw[ZL]at hu;rw[TE];exact(hmo u hu).2.1
      have hx0:∀ps:List Int,(0:Int)<=(⟨x2.count,x2.value,ps⟩:Cel).count/\(⟨x2.count,x2.value,ps⟩:Cel).count<=1152921504606846976:=λps=>by show 0<=x2.count/\x2.count<=_;omega
      have XX:∀u:Nat,tb x2 u (j':Int)=(⟨x2.count,x2.value,x2.parts.set u (j':Int)⟩:Cel):=λu=>by unfold tb;rw[Z2 hxk]
      refine⟨if 0<=ix x2.value.names fr 0 then iD 5 (eG (iz (eG h j' (gE y')) nm).1 k (tb x2 (ix x2.value.names fr 0).toNat (j':Int))) ((x2.parts[(ix x2.value.names fr 0).toNat]?).getD 0) else eG (iz (eG h j' (gE y')) nm).1 k (qb x2 fr (j':Int)),[],λcs cx w a b=>?_,λcs cx w a b=>?_,?_⟩
      ·refine mE h nm fr pt v _ _ _ _ _ _ rI [] hz hk hl hx lJ rfl rfl cs cx w a b (.inr (.inr ⟨i,j',S.cd,T.cd,S.dep,rfl,T.dep,rfl,FI,.inr (.inr (.inr ⟨rfl,h4,h0,λg F W H=>?_,rfl⟩))⟩));refine Ly h _ nm fr j' k y' x2 _ g F W H hl T.cd T.cel e4 e5 (λF W H=>?_) o2 rfl hnl mD eb (λu hu=>?_)
       ·have:=Q9 _ nm g F W H eb OK;rw[o1]at this;exact this
       ·have hul:=hlt u hu;have hy:=aw hul;refine⟨_,hy,?_⟩;rw[XX];exact(NJ o6 o2 hy o7 (hx0 _)).1
      ·refine mN h nm fr pt v _ _ _ _ _ _ rS [] hz hk hl dP rk hx lJ rfl rfl cs cx w a b (.inr (.inr ⟨p,q,i,j',xi,y',S.at_,T.at_,S.slot,T.slot,S.cel,T.cel,S.dep,rfl,T.dep,rfl,FS,.inr (.inr (.inr ⟨rfl,by rw[ei];exact h4,by rw[ej];exact h0,e4,e5,by omega,⟨(iz (eG h j' (gE y')) nm).1,k,x2,_,λg F W H=>?_,o2,rfl,hnl,mD,?_⟩,rfl⟩))⟩))
       ·have:=Ed _ nm g F W H eb OK;rw[o1]at this;exact this
       ·by_cases ha:0<=ix x2.value.names fr 0
        ·obtain⟨u,hu⟩:=bQ ha;have hul:=hlt u hu;have hy:=aw hul;obtain⟨r1,r2⟩:=NJ o6 o2 hy o7 (hx0 (x2.parts.set u (j':Int)));refine .inr ⟨u,_,_,hu,hy,r1,r2,?_⟩;rw[aN ha,hu,aU,XX,hy,bV,pn2 ha];refine(S6 r2).symm.trans ?_;congr 1;generalize x2.value=V;cases V;rfl
        ·refine .inl ⟨by omega,?_⟩;rw[aH ha,pn1 dP];unfold qb;rw[<-hxk]
      ·have g0:=UT T.cel;have g1:=UO (eG h j' (gE y')) nm;rw[X4,Bu,AA,hcp]at g1;have g2:=S.sz;have g3:xi.parts.length<=40:=by rw[<-o5];exact mD
       have F:=jf S.vec;refine⟨?_,λhc=>by obtain⟨u1,u2,u3,u4⟩:=YD hk hn (La hx) T.cel (aA T.slot) (by rw[S.sd]) h4 Tw.1 o1 o2 o3 hmp (by rw[<-hrS];exact gF) hc;exact⟨u1,u2,u3,u4,λ_ e=>absurd (show (3:Int)=2 from e) dQ⟩⟩
       show szD _<=szD h.toD+2*szD v.toD+30000;split
       ·have g4:=PA 5 (eG (iz (eG h j' (gE y')) nm).1 k (tb x2 (ix x2.value.names fr 0).toNat (j':Int))) ((x2.parts[(ix x2.value.names fr 0).toNat]?).getD 0);have g5:=wT (iz (eG h j' (gE y')) nm).1 k (tb x2 (ix x2.value.names fr 0).toNat (j':Int));rw[Bu (tb _ _ _),XX]at g5;rw[XX]at g4 ⊢;have g6:szD x2.value.toD<=10000:=by rw[o4];exact g2
        simp only[da]at g5;omega
       ·next ha=>
        have g5:=wT (iz (eG h j' (gE y')) nm).1 k (qb x2 fr (j':Int));rw[Bu (qb _ _ _)]at g5;have hB:VB (qb x2 fr (j':Int)).value 0:=by
         have B:=F.vb (B:=740880000) (λx hx=>(L.p x hx).2);have e1:(qb x2 fr (j':Int)).value.names=rS.names:=(pn1 dP).symm;refine⟨?_,?_,?_,?_,?_⟩
         ·show x2.value.items.length<=41/\∀x∈x2.value.items,_;rw[o4,S.val];exact B.i
         ·show x2.value.parts.length<=41/\∀x∈x2.value.parts,_;rw[o4,S.val];exact⟨by simp,by simp⟩
         ·rw[e1];exact⟨by omega,(jf gF).names⟩
         ·show x2.value.cls.length<=40/\∀x∈x2.value.cls,_;rw[o4,S.val];exact B.c
         ·show x2.value.levels.length<=40/\∀x∈x2.value.levels,_;rw[o4,S.val];exact B.l
        have g6:=hB.sz;have g7:(qb x2 fr (j':Int)).parts.length=x2.parts.length+1:=by show (x2.parts++[_]).length=_;simp
        omega
    ·exact⟨h,_,λcs cx w a b=>mE h nm fr pt v _ _ _ _ _ _ rI [] hz hk hl hx lJ rfl rfl cs cx w a b (.inr (.inr ⟨i,j',S.cd,T.cd,S.dep,rfl,T.dep,rfl,FI,.inr (.inl ⟨rfl,h4,rfl,rfl⟩)⟩)),
      λcs cx w a b=>mN h nm fr pt v _ _ _ _ _ _ rS [] hz hk hl dP rk hx lJ rfl rfl cs cx w a b (.inr (.inr ⟨p,q,i,j',xi,y',S.at_,T.at_,S.slot,T.slot,S.cel,T.cel,S.dep,rfl,T.dep,rfl,FS,.inr (.inl ⟨rfl,by rw[ei];exact h4,rfl,rfl⟩)⟩)),Gr.same hk abp⟩
   ·have e':rs.isEmpty=false:=by cases rs;exact absurd rfl e;rfl
    exact⟨h,rs,λcs cx w a b=>mE h nm fr pt v _ _ _ _ _ _ rI rs hz hk hl hx lJ rfl rfl cs cx w a b (.inr (.inr ⟨i,j',S.cd,T.cd,S.dep,rfl,T.dep,rfl,FI,.inl ⟨e',rfl,rfl⟩⟩)),
     λcs cx w a b=>mN h nm fr pt v _ _ _ _ _ _ rS rs hz hk hl dP rk hx lJ rfl rfl cs cx w a b (.inr (.inr ⟨p,q,i,j',xi,y',S.at_,T.at_,S.slot,T.slot,S.cel,T.cel,S.dep,rfl,T.dep,rfl,FS,.inl ⟨e',rfl,rfl⟩⟩)),Gr.same hk e⟩
  ·obtain⟨n1,n2⟩:=zS hf;exact⟨h,_,λcs cx w a b=>mE h nm fr pt v _ _ _ _ zeroV zeroV zeroV [] hz hk hl hx lJ rfl rfl cs cx w a b (.inr (.inl ⟨i,S.cd,by omega,rfl,rfl⟩)),
    λcs cx w a b=>mN h nm fr pt v _ _ _ _ zeroV zeroV zeroV [] hz hk hl dP rk hx lJ rfl rfl cs cx w a b (.inr (.inl ⟨p,S.at_,n2,rfl,rfl⟩)),Gr.same hk abp⟩
 ·obtain⟨n1,n2⟩:=zS hn;exact⟨h,_,λcs cx w a b=>mE h nm fr pt v _ _ _ _ zeroV zeroV zeroV [] hz hk hl hx lJ rfl rfl cs cx w a b (.inl ⟨by omega,rfl,rfl⟩),
   λcs cx w a b=>mN h nm fr pt v _ _ _ _ zeroV zeroV zeroV [] hz hk hl dP rk hx lJ rfl rfl cs cx w a b (.inl ⟨n2,rfl,rfl⟩),Gr.same hk abp⟩
inductive RunR:Hp->Nat->List Hop->Hp->Nat->Prop
 |nil (h:Hp) (n:Nat):RunR h n [] h n
 |bad {h:Hp} {n:Nat} {x:Hop} {t:List Hop} {R G:Hp} {r:Str} {m:Nat}:StI h x R r->StS h x R r->r.isEmpty=false->RunR h (n+1) t G m->RunR h n (x::t) G m
 |ok {h:Hp} {n:Nat} {x:Hop} {t:List Hop} {R G:Hp} {m:Nat}:StI h x R []->StS h x R []->RunR R n t G m->RunR h n (x::t) G m
theorem aaO {G:Hp}{m:Nat} (H:RunR h n [] G m):h=G/\n=m:=by cases H;exact⟨rfl,rfl⟩
theorem aas {h G:Hp} {n m j:Nat} {l:List Hop} {x:Hop} (hx:l[j]?=some x) (H:RunR h n (l.drop j) G m):∃(R:Hp) (r:Str),StI h x R r/\StS h x R r/\((r.isEmpty=false/\RunR h (n+1) (l.drop (j+1)) G m)\/(r=[]/\RunR R n (l.drop (j+1)) G m)):=by
 obtain⟨hj,e⟩:=ay.1 hx;rw[cR hj,e]at H;cases H with
 |bad a b c d=>exact⟨_,_,a,b,.inl ⟨c,d⟩⟩
 |ok a b d=>exact⟨_,_,a,b,.inr ⟨rfl,d⟩⟩
theorem T2 {w0:World} {X:List Nat} {R:List As} {f:Nat} {args:Array Value} {Ψ:Ending->World->Prop} {y:Value} (hc:Calls prog f args w (eH h.toD 28 y w)) (M:Mem prog w0 X w R) (hK:∀(x:Gh) w',Mem prog w0 X w' (.ow h.toD 28 [.slice (x.A 1) h.cells.length (x.C 1),.slice (x.A 2) h.names.length (x.C 2),.slice (x.A 3) h.slots.length (x.C 3),h.copies]::R)->Ψ (.returned (.tuple #[.agg #[.slice (x.A 1) h.cells.length (x.C 1),.slice (x.A 2) h.names.length (x.C 2),.slice (x.A 3) h.slots.length (x.C 3),h.copies],y])) w'):Calls prog f args w Ψ:=
 hc.mono λe w' hn=>by obtain⟨cs,F,rfl,ho,hf,hb⟩:=hn;have M':=M.gain ho hf hb;obtain⟨Ah,ch,An,cn,Ak,ck,rfl,-⟩:=gV (M'.rp 0 rfl);exact hK (Ow [(none,0),(Ah,ch),(An,cn),(Ak,ck)]) w' M'
theorem aap {B:Nat} {l:List Hop}{k:Nat} (h:rep w B (.sl (l.map Hop.toD)) [.slice A n c]) (hk:k<n):
 ∃(b off:Nat) (x:Hop) (Ai:Option Addr) (ci:Nat) (Ap:Option Addr) (cp:Nat) (An:Option Addr) (cn:Nat) (Ac:Option Addr) (cc:Nat) (Al:Option Addr) (cl:Nat),A=some ⟨b,off,none⟩/\b<B/\l[k]?=some x/\
  rep w B x.toD [x.kind,sv x.name,sv x.frm,x.at_,x.value.kind,.slice Ai x.value.items.length ci,.slice Ap x.value.parts.length cp,.slice An x.value.names.length cn,.slice Ac x.value.cls.length cc,.slice Al x.value.levels.length cl,x.value.code,x.value.env]/\
  w.cell? ⟨b,off+k*12,none⟩=some (.int .i64 x.kind)/\w.cell? ⟨b,off+k*12+1,none⟩=some (sv x.name)/\w.cell? ⟨b,off+k*12+2,none⟩=some (sv x.frm)/\w.cell? ⟨b,off+k*12+3,none⟩=some (.int .i64 x.at_)/\w.cell? ⟨b,off+k*12+4,none⟩=some (.int .i64 x.value.kind)/\
  w.cell? ⟨b,off+k*12+5,none⟩=some (.slice Ai x.value.items.length ci)/\w.cell? ⟨b,off+k*12+6,none⟩=some (.slice Ap x.value.parts.length cp)/\w.cell? ⟨b,off+k*12+7,none⟩=some (.slice An x.value.names.length cn)/\w.cell? ⟨b,off+k*12+8,none⟩=some (.slice Ac x.value.cls.length cc)/\w.cell? ⟨b,off+k*12+9,none⟩=some (.slice Al x.value.levels.length cl)/\w.cell? ⟨b,off+k*12+10,none⟩=some (.int .i64 x.value.code)/\w.cell? ⟨b,off+k*12+11,none⟩=some (.int .i64 x.value.env):=by
 obtain⟨b,off,x,Ai,ni,ci,Ap,np,cp,An,nn,cn,Ac,nc,cc,Al,nl,cl,h1,h2,h3,hr,hc⟩:=P2 h hk;obtain⟨kd,nm,fr,pt,v⟩:=x;obtain⟨_,_,_,_,_,_,_,_,_,_,he,-⟩:=gQ hr;simp only[bF,bG,dy,cO]at he;obtain⟨⟨rfl,rfl,rfl⟩,⟨rfl,rfl,rfl⟩,⟨rfl,rfl,rfl⟩,⟨rfl,rfl,rfl⟩,⟨rfl,rfl,rfl⟩⟩:=he;exact⟨b,off,_,_,_,_,_,_,_,_,_,_,_,h1,h2,h3,hr,hc⟩
theorem aa9 (l:List Hop) (G:Hp) (m:Nat) (h30:l.length<=30) (aaS:RunR ⟨[],[],[],0⟩ 0 l G m) (Al:Option Addr) (cl:Nat) (w:World) (hl:rep w w.heap.size (.sl (l.map Hop.toD)) [.slice Al l.length cl]):Calls prog 8 #[.slice Al l.length cl] w (eH G.toD 28 (.int .i64 (m:Nat)) w):=by
 have gK:(l.length:Int)<=30:=dP;replace aaS:=aa aaS;have q30:decide ((30:Int)<(l.length:Int))=false:=dS;have q31:decide ((l.length:Int)<=30)=true:=dS;clear h30;have M:Mem prog w [] w []:=Mem.start;go_enter func8,ntmps8;refine Sq (Sa M (λJ1 wv M=>?_));refine Sb M [] 1 (Sz (Sq ?_));refine Sb M [] 1 ?_;refine Sa M (λJ2 wv M=>?_);refine Ss M 0 (λwv M=>Sz ?_);refine Ra M [] (ae ?_);refine Ra M [] (aJ ?_);refine fy (ι:=Nat × Hp × Nat × Option Addr × Nat × Option Addr × Nat × Option Addr × Nat) [7,8,10,11,12,13,14,15,16,17,18,19,20,21,22,23,24,25,26,27,28,29,30,31,32,33,34] (λfu=>match fu with|(j,h,n,Ah,ch,An,cn,Ak,ck)=>[(5,.int .i64 (n:Nat)),(6,.int .i64 (j:Nat))]) (λfu=>match fu with|(j,h,n,Ah,ch,An,cn,Ak,ck)=>j<=l.length/\n<=j/\RunR h n (l.drop j) G m) (λfu=>match fu with|(j,h,n,Ah,ch,An,cn,Ak,ck)=>[.ow (Hp.toD h) 28 [.slice Ah h.cells.length ch,.slice An h.names.length cn,.slice Ak h.slots.length ck,h.copies],.bk (J2.b) 28 [.slice Ah h.cells.length ch,.slice An h.names.length cn,.slice Ak h.slots.length ck,h.copies],.bk (J1.b) 28 [(),(),(),.int .i64 0]]) (λfu=>match fu with|(j,h,n,Ah,ch,An,cn,Ak,ck)=>l.length - j) (0,⟨[],[],[],0⟩,0,none,0,none,0,none,0) (⟨by omega,by omega,by rw[Hc];exact aaS.out⟩) ((M.zeroHeap).sel [0,1,2] dQ) ?_;rintro⟨j,h,n,Ah,ch,An,cn,Ak,ck⟩ Mf W1 K1 h1 M rH;try dsimp only at h1 M ⊢
 refine uM ?_;obtain⟨hj,hnj,HRn⟩:=h1;replace HRn:=aa HRn;refine ae (Sq (Sb M [] 5 ?_));refine So ((bif (decide (j<l.length)) then .slice Al l.length cl else undef)) (λK Z hK=>by rcases ac ((decide (j<l.length))) with hg|hg<;>simp only[hg,ar,ak,aD,aB,az,aq,aj,am]at hK<;>go_simp<;>exact hK) ?_;refine So ((bif (decide (j<l.length)) then .int .i64 (l.length:Nat) else undef)) (λK Z hK=>by rcases ac ((decide (j<l.length))) with hg|hg<;>simp only[hg,ar,ak,aD,aB,az,aq,aj,am]at hK<;>go_simp<;>exact hK) ?_;refine So ((bif (decide (j<l.length)) then .bool true else undef)) (λK Z hK=>by rcases ac ((decide (j<l.length))) with hg|hg<;>simp only[hg,ar,ak,aD,aB,az,aq,aj,am]at hK<;>go_simp<;>exact hK) ?_;refine So (.bool (decide (j<l.length))) (λK Z hK=>by rcases ac ((decide (j<l.length))) with hg|hg<;>simp only[hg,ar,ak,aD,aB,az,aq,aj,am]at hK<;>go_simp<;>exact hK) (Sz ?_);refine lW (λhlt=>?_) (λhlt=>?_)
 ·rw[hlt];replace hlt:=aa hlt;have hlj:j<l.length:=eX;obtain⟨bc,off,x,Bi,di,Bp,dp,Bn,dn,Bc,dc,Bl,dl,hAl,gD,hx,rx,e0,e1,e2,e3,e4,e5,e6,e7,e8,e9,e10,e11⟩:=aap hl hlj;subst hAl;have j0:(0:Int)<=(j:Int):=dP;have j1:(j:Int)<(l.length:Int):=dP;obtain⟨R',r,HI',Zc,nD⟩:=aas hx HRn.out;have HI:=aa HI';have HS:=aa Zc;clear HI' Zc hx HRn;refine bd (dV (ae (aJ ?_)));refine mL M [none,none] [.la 1,.v (.c (.slice (some ⟨bc,off,none⟩) l.length cl)),.i (j:Nat),.o bc (off+j*12),.v (.c (.agg #[x.kind,sv x.name,sv x.frm,x.at_,x.value.kind,.slice Bi x.value.items.length di,.slice Bp x.value.parts.length dp,.slice Bn x.value.names.length dn,.slice Bc x.value.cls.length dc,.slice Bl x.value.levels.length dl,x.value.code,x.value.env])),.v (.e 5 (λxh=> .tuple #[.agg #[.slice ((xh.A 1)) R'.cells.length ((xh.C 1)),.slice ((xh.A 2)) R'.names.length ((xh.C 2)),.slice ((xh.A 3)) R'.slots.length ((xh.C 3)),R'.copies],sv r])),.p 0,.x 0 0,.x 1 1,.q 9 0,.u,.p 2] [.e 5 none (.e 5 (λxh=> .ow (Hp.toD R') 28 [.slice ((xh.A 1)) R'.cells.length ((xh.C 1)),.slice ((xh.A 2)) R'.names.length ((xh.C 2)),.slice ((xh.A 3)) R'.slots.length ((xh.C 3)),R'.copies])),.e 9 (some 10) (oB 9 28 [(),(),(),.int .i64 0]),.x 10 none 3 5 0] [[1],[],[],[],[],[0],[],[],[],[],[],[]] [] ?_ ?_
  ·show ∀i,i<12->_;refine On ?_ eB;refine On ?_ (tn [3] [4] [] (h:=λγ wv R K M hK=>uC));refine On (On (On (On ?_ eB) eB) eB) (kX [3]);refine On ?_ (tn [] [2] [0] (h:=λγ wv R K M hK=>by go_simp;go_at_call 11;exact T2 (HS.out _ _ _ (M.rp 0 rfl) (M.arg rx)) M hK))
   refine On ?_ (mW [] (h:=λγ wv K M hK=>by have c0:wv.cell? ⟨bc,off+j*12,none⟩=some (.int .i64 x.kind):=(M.bel.cell gD).trans e0;have c1:wv.cell? ⟨bc,off+j*12+1,none⟩=some (sv x.name):=(M.bel.cell gD).trans e1;have c2:wv.cell? ⟨bc,off+j*12+2,none⟩=some (sv x.frm):=(M.bel.cell gD).trans e2;have c3:wv.cell? ⟨bc,off+j*12+3,none⟩=some (.int .i64 x.at_):=(M.bel.cell gD).trans e3;have c4:wv.cell? ⟨bc,off+j*12+4,none⟩=some (.int .i64 x.value.kind):=(M.bel.cell gD).trans e4;have c5:wv.cell? ⟨bc,off+j*12+5,none⟩=some (.slice Bi x.value.items.length di):=(M.bel.cell gD).trans e5;have c6:wv.cell? ⟨bc,off+j*12+6,none⟩=some (.slice Bp x.value.parts.length dp):=(M.bel.cell gD).trans e6;have c7:wv.cell? ⟨bc,off+j*12+7,none⟩=some (.slice Bn x.value.names.length dn):=(M.bel.cell gD).trans e7;have c8:wv.cell? ⟨bc,off+j*12+8,none⟩=some (.slice Bc x.value.cls.length dc):=(M.bel.cell gD).trans e8;have c9:wv.cell? ⟨bc,off+j*12+9,none⟩=some (.slice Bl x.value.levels.length dl):=(M.bel.cell gD).trans e9;have c10:wv.cell? ⟨bc,off+j*12+10,none⟩=some (.int .i64 x.value.code):=(M.bel.cell gD).trans e10;have c11:wv.cell? ⟨bc,off+j*12+11,none⟩=some (.int .i64 x.value.env):=(M.bel.cell gD).trans e11;go_simp;exact hK))
   refine On (On (On ?_ eB) eB) eh;refine On ?_ (mW [1] (h:=λγ wv K M hK=>lC));exact Oz
  intro Ho wv M;replace M:Mem _ _ _ _ [_,_,.ow _ _ _,.bk _ _ [_,_,_,_],_]:=M;rcases nD with ⟨hr,TP⟩|⟨rfl,TP⟩
  ·skip;refine Ra M [] ?_;refine ct ?_;refine Rb M [] (fA (dV ?_));refine Rb M [] (dV ?_);exact rH (j+1,h,n+1,Ah,ch,An,cn,Ak,ck) _ _ dU (⟨by omega,by omega,TP⟩) (by(try dsimp only);omega) (M.sel [0,1,4] dQ)
  ·skip;refine Ra M [] ?_;refine cf (Sg ?_);refine Sb M [3] 1 ?_;refine Ss M 1 (λwv M=>Sy (fA (dV ?_)));refine Rb M [] (dV ?_);exact rH (j+1,R',n,((((Ho 5).A 1))),((((Ho 5).C 1))),((((Ho 5).A 2))),((((Ho 5).C 2))),((((Ho 5).A 3))),((((Ho 5).C 3)))) _ _ dU (⟨by omega,by omega,TP⟩) (by(try dsimp only);omega) (M.sel [2,1,4] dQ)
 ·rw[hlt];replace hlt:=aa hlt;obtain rfl:j=l.length:=eX;obtain⟨eG,em⟩:=aaO (by have z:=HRn.out;rw[List.drop_length]at z;exact z);replace eG:=aa eG;replace em:=aa em;clear HRn;refine bo (es (es (fT (dV (Sq (Sb M [1] 2 ?_))))));refine Ss M 2 (λwv M=>?_);refine Sb M [] 1 (Sz (aO ?_));refine kN results8 M 2 ?_;rw[<-eG.out,<-em.out];exact(M.sel [0] dQ).retTwo
theorem Jr:szD (Hp.toD ⟨[],[],[],0⟩)=0:=by rw[kD];simp [gv]
theorem YR (hk:fG h=true) (hz:szD h.toD<=4194304) (hx:je x=true):∃(R:Hp) (r:Str),StI h x R r/\StS h x R r/\Gr h x R r:=by
 obtain⟨kd,nm,fr,pt,v⟩:=x;obtain⟨-,-,h4,-,-⟩:=sX hx;rcases h4 with rfl|rfl|rfl|rfl
 ·exact RK hk hz hx
 ·exact P7 hk hz hx
 ·exact Oo hk hz hx
 ·exact VD hk hz hx
theorem abC:∀(t:List Hop) (h:Hp) (n:Nat),fG h=true->GD h->h.copies+(t.length:Int)<=1000->szD h.toD+(2*gv (t.map Hop.toD)+30000*t.length)<=4194304->gv (t.map Hop.toD)<=1048576->
 ∃(G:Hp) (m:Nat),RunR h n t G m/\szD G.toD<=szD h.toD+(2*gv (t.map Hop.toD)+30000*t.length)/\fG G=true/\GD G/\G.copies<=h.copies+(t.length:Int)
 |[],h,n,hk,hg,_,hz,_=>⟨h,n,.nil h n,by omega,hk,hg,by simp⟩
 |x::t,h,n,hk,hg,hc,hz,hb=>by
  simp only[br,gv,bU]at hc hz hb ⊢;have hzx:=wG x;have same:(∃(G:Hp) (m:Nat),RunR h (n+1) t G m/\szD G.toD<=szD h.toD+(2*gv (t.map Hop.toD)+30000*t.length)/\fG G=true/\GD G/\G.copies<=h.copies+(t.length:Int)):=abC t h (n+1) hk hg dP dP dP;cases hx:je x with
  |false=>
   obtain⟨G,m,H,z,a,b,c⟩:=same;obtain⟨kd,nm,fr,pt,v⟩:=x;exact⟨G,m,.bad (λcs cx w a b=>PC h kd pt nm fr v dP hk hx (by unfold bigV;simp only at hzx;omega) cs cx w a b) (λcs cx w a b=>Qa h kd pt nm fr v dP hk hx (by unfold bigV;simp only at hzx;omega) cs cx w a b) rfl H,by omega,a,b,by omega⟩
  |true=>
   obtain⟨R,r,a,b,c1,c2⟩:=YR hk dP hx;cases hr:r.isEmpty with
   |false=>
    obtain⟨G,m,H,z,p,q,s⟩:=same;exact⟨G,m,.bad a b hr H,by omega,p,q,by omega⟩
   |true=>
    obtain rfl:r=[]:=dh.1 hr;obtain⟨d1,d2,d3,-⟩:=c2 dP;obtain⟨G,m,H,z,p,q,s⟩:=abC t R n d1 (d3 hg) dP dP dP;exact⟨G,m,.ok a b H,by omega,p,q,by omega⟩
theorem aco:GD ⟨[],[],[],0⟩:=λk hk=>by exfalso;revert hk;unfold celD;split<;>simp
theorem acP (l:List Hop) (h30:l.length<=14) (hz:gv (l.map Hop.toD)<=200000):∃(G:Hp) (m:Nat),RunR ⟨[],[],[],0⟩ 0 l G m/\szD G.toD<=820000/\fG G=true/\GD G/\G.copies<=14:=by obtain⟨G,m,H,z,a,b,c⟩:=abC l ⟨[],[],[],0⟩ 0 dQ aco ig (by rw[Jr];omega) dP;rw[Jr]at z;simp only at c;exact⟨G,m,H,by omega,a,b,by omega⟩
def DHp (K:Nat) (A:Option Addr) (n c:Nat) (w:World) (g:Nat) (e:Ending) (w':World):Prop:=∃(h:Hp) (cs:List Value) (F:List Nat),(szD h.toD<=K/\h.copies<=14)/\e= .returned (.agg cs.toArray)/\own prog w' h.toD 28 F cs/\Fresh w.heap.size F/\DrA A n c w g w'
section
variable {w0 w w':World} {X:List Nat} {A:Option Addr} {n c g:Nat} {V0 V1:Value} {R:List As} {K:Nat} {cs:List Value}
theorem Mem.outHeap {h:Hp} (hC:Fe w [g] A n g) (M:Mem prog w [g] w' (.bk g 122 [.slice A n c,V0,V1]:: .fa (ti n V0 V1):: .ow h.toD 28 cs::R)) (hK:szD h.toD<=K) (hcp:h.copies<=14):DHp K A n c w g (.returned (.agg cs.toArray)) w':=by obtain⟨F,o,f,hd⟩:=M.outD hC;exact⟨h,cs,F,⟨hK,hcp⟩,rfl,o,f,hd⟩
theorem Mem.openHeapE {h:Hp} {A1 A2 A3:Option Addr} {n1 c1 n2 c2 n3 c3:Nat} {z:Value} (M:Mem prog w0 X w (.ow h.toD 28 [.slice A1 n1 c1,.slice A2 n2 c2,.slice A3 n3 c3,z]::R)):
 (Lit.int .i64 h.copies).wf=true/\Mem prog w0 X w (.ow (.sl (h.cells.map Cel.toD)) 24 [.slice A1 n1 c1]:: .ow (.sl (h.names.map .s)) 25 [.slice A2 n2 c2]:: .ow (.sl (h.slots.map (.i .i64))) 26 [.slice A3 n3 c3]::R):=by
 obtain⟨_,_,_,_,_,_,he,hw,M2⟩:=Mem.openHeap M;simp only[bF,bG,cO]at he;obtain⟨⟨rfl,rfl,rfl⟩,⟨rfl,rfl,rfl⟩,⟨rfl,rfl,rfl⟩,rfl⟩:=he;exact⟨hw,M2⟩
theorem Mem.zeroCel {c:Int} (M:Mem prog w0 X w R) (hc:(Lit.int .i64 c).wf=true):Mem prog w0 X w (.ow (Cel.toD ⟨c,zeroV,[]⟩) 43 [c,.int .i64 0,(),(),(),(),(),.int .i64 0,.int .i64 0,()]::R):=by have M:=(((((M.nil (t:=26) underlying26).nil (t:=25) underlying25).nil (t:=25) underlying25).nil (t:=25) underlying25).nil (t:=36) underlying36).nil (t:=35) underlying35;exact Mem.joinCell (x:=⟨c,zeroV,[]⟩) (Mem.joinVec (v:=zeroV) M le le le) hc
end
theorem adK (g:Nat) (w:World) (hc:CuA A n c w g):Calls prog 70 #[.pointer (some ⟨g,0,none⟩)] w λe w'=>DHp 830000 A n c w g e w':=by
 obtain⟨V0,V1,yi,M0⟩:=Mem.inCur hc;have hC:=aa yi;clear yi hc;have M:=M0.up [];go_enter func70,ntmps70;refine Sq (Sa M (λJ1 wv M=>Sz (Sq ?_)));refine Sb M [] 1 ?_;replace M:=M.up [2,2];refine Sc (agj hC.out M (λhc=>aba g 10 dP dP _ hc) λJ2 wv M=>Sp ?_);replace M:=M.up [3,3];have hfw:=M.pr 0 rfl;have ajD:=hfw.1;have ak_:=hfw.2;obtain⟨G0,m0,TP,gz,-,-,gc⟩:=acP _ dP (du ak_ dP);have HR:=aa TP;clear TP;refine Sc (T2 (aa9 _ G0 m0 dP HR.out _ _ _ (M.rp 1 rfl)) M λJ3 wv M=>Sp ?_);refine Sb M [] 3 ?_;refine Sa M (λJ4 wv M=>?_);refine Ss M 0 (λwv M=>?_);refine Sb M [] 1 (Sz ?_);clear HR;replace M:=M.up [1];obtain⟨To,M⟩:=Mem.openHeapE M;replace M:=M.up [];have gl:=gz;rw[kD]at gl;refine Sq (Sb M [3] 4 ?_);refine So (.int .i64 (if 1<(G0.cells.length:Int) then (G0.cells.length:Int) else 1)) (λK Z hK=>tl) ?_;replace M:=M.up [7,7];refine Sc (v5 hC.out M (λhc=>ne g (if 1<(G0.cells.length:Int) then (G0.cells.length:Int) else 1) _ hc (by split<;>omega) (by split<;>omega)) λJ5 wv adF M=>Sp ?_);refine Sb M [] 1 (Sz ?_);obtain⟨k,hk⟩:∃k:Nat,J5.c=k:=⟨_,rfl⟩;rw[hk]at adF ⊢;have L_:k<=820000:=by split at adF<;>omega
 have Ch:G0.cells.length=0\/k<G0.cells.length:=by split at adF<;>omega
 clear adF hk;refine ae (Sq (Sb M [] 1 ?_));refine Sc (v5 hC.out M (λhc=>ne g 14 _ hc dP dP) λJ6 wv ajz M=>Sp (Sz (aJ ?_)));refine Ra M [] ?_;refine lW (λh20=>?_) (λh20=>?_)
 ·rw[h20];replace h20:=aa h20;refine Ra M [5] ?_;refine lW (λh25=>?_) (λh25=>?_)
  ·rw[h25];replace h25:=aa h25;have hlp:0<G0.cells.length:=by have z:=h25.out;simpa using z
   have XQ:k<G0.cells.length:=dP;obtain⟨zb,hzb⟩:=(M.pull 2 rfl).some0 underlying24 dP;rw[hzb]at M ⊢;clear hzb;obtain⟨x,qD⟩:∃s,G0.cells[k]?=some s:=⟨_,aw XQ⟩;have hx:=aa qD;clear qD;have j0:(0:Int)<=(k:Int):=dP;have j1:(k:Int)<(G0.cells.length:Int):=dP;have TE:x.parts.length<=820000:=acW;replace M:=M.up [2];obtain⟨Ei,ui,Ep,up,Ex,ux,Ec,uc,El,ul,Ez,uz,pre,post,ca,cb,iZ,-,wx1,Qp,Qq,Qr,M,jO⟩:=Mem.cellOut M hx.out;refine CJ (M.sel [0,9,10,13,1,2,3,4,5,6,7,8,11,12,14,15,16] dQ) [some 8,some 5,some 5,none] [.o (J4.b) 0,.l 3 0,.i (k:Nat),.v (.c (.pointer (some ⟨g,0,none⟩))),.v (.e 4 (λnP=> .slice (some ⟨nP.b,0,none⟩) 5 5)),.v (.e 5 (λxh=> .int .i64 (xh.Z))),.o zb (k*10),.p 0,.u] [.e 4 (some 5) (oB 4 3 [.int .i64 0,.int .i64 1,.int .i64 2,.int .i64 (-1),.int .i64 9223372036854775807]),.e 5 none (.e 5 (λxh=> .bk g 122 [.slice A n c,((xh.f 0)),((xh.f 1))])),.e 5 none (.e 5 (λxh=> .fa (ti n ((xh.f 0)) ((xh.f 1))))),.e 5 none (.e 5 (λxh=> .fa (xh.Z∈([0,1,2,(-1),9223372036854775807]:List Int)))),.e 8 none (.e 5 (λxh=> .bk (zb) 43 (pre++([.int .i64 (xh.Z),.int .i64 x.value.kind,.slice Ei x.value.items.length ui,.slice Ep x.value.parts.length up,.slice Ex x.value.names.length ux,.slice Ec x.value.cls.length uc,.slice El x.value.levels.length ul,.int .i64 x.value.code,.int .i64 x.value.env,.slice Ez x.parts.length uz]++post))))] [[],[3],[],[],[],[],[],[],[]] [] ?_ ?_
   ·show ∀i,i<9->_;refine On ?_ (tn [0] [8] [] (h:=λγ wv R K M hK=>by have kB:=M.bl 0 rfl;have c0:wv.cell? ⟨zb,k*10,none⟩=some _:=kB.seg iZ (j:=0) rfl;have f0:=kB.frozen (k*10);have hg:=kB.lt;go_simp;exact hK (mA 0) _ (M.putSeg iZ (j:=0) dR)))
    refine On (On ?_ eh) eh;refine On ?_ (tn [1,2,4] [5,6,7] [] (h:=λγ wv R K M hK=>by go_simp;go_at_call 95;exact Hn (l:=[0,1,2,(-1),9223372036854775807]) hC.out M rfl rfl dQ dQ hK))
    exact On (On (On (On (On Oz eh) (e_ [3] 0)) eB) eB) (kX [4])
   intro Ho wv M;replace M:Mem _ _ _ _ [_,.bk _ _ _,.fa _,.fa _,.bk _ _ _,_,_,_,_,_,_,_,_,_,_,_,_,_]:=M;have hmz:=M.pr 3 rfl;simp only[aX,df,ce]at hmz;replace M:=M.up [12,12,12,12,12,12,12,12,12];replace M:=jO _ _ _ _ (⟨(Ho 5).Z,x.value,x.parts⟩:Cel) _ _ _ _ _ _ _ _ _ _ _ _ _ _ _ _ _ _ (kP.2 tc) Qp Qq Qr M;refine fA (dV (Sq (Sb M [1] 1 ?_)));refine Ss M 9 (λwv M=>Sz (aO ?_));refine kN results70 M 9 ?_;have MZ:=M.sel [0,5,6,2,3] dQ;simp only[lH,bH,bY,ah,ag]at MZ;have MZ:=Mem.joinHeap (h:=(eG G0 k (⟨(Ho 5).Z,x.value,x.parts⟩:Cel))) MZ To;exact Mem.outHeap hC.out (MZ.up [2,2]) (by have g1:=wT G0 k (⟨(Ho 5).Z,x.value,x.parts⟩:Cel);rw[Bu]at g1;have g2:=hx.out;have g3:=iI g2;rw[g3,Bu]at g1;simp only[aY,bU,bf]at g1;omega) abl
  ·rw[h25];replace h25:=aa h25;refine bd (fA (dV (Sq (Sb M [5] 1 ?_))));refine Ss M 8 (λwv M=>Sz (aO ?_));refine kN results70 M 8 ?_;have MZ:=M.sel [2,3,4,0,1] dQ;simp only[lH,bH,bY,ah,ag]at MZ;have MZ:=Mem.joinHeap (h:=G0) MZ To;exact Mem.outHeap hC.out (MZ.up [2,2]) dP abl
 ·rw[h20];replace h20:=aa h20;refine Ra M [] ?_;refine lW (λh34=>?_) (λh34=>?_)
  ·rw[h34];replace h34:=aa h34;refine CJ (M.sel [0,1,2,5,3,4,6,7,8] dQ) [some 3,some 3,some 6,some 8] [.o (J4.b) 0,.l 3 0,.v (.c (.pointer (some ⟨g,0,none⟩))),.v (.e 3 (λii=> .int .i64 (ii.c:Nat))),.v (.e 3 (λii=> .agg #[.int .i64 (ii.c:Nat),.int .i64 0,(),(),(),(),(),.int .i64 0,.int .i64 0,()])),.v (.e 5 (λxh=> .slice (some ⟨xh.b,0,none⟩) 1 1)),.v (vA 6 (G0.cells.length+1)),.p 6,.u] [.e 3 none (.e 3 (λii=> .bk g 122 [.slice A n c,((ii.f 0)),((ii.f 1))])),.e 3 none (.e 3 (λii=> .fa (ti n ((ii.f 0)) ((ii.f 1))))),.e 3 none (.e 3 (λii=> .fa (((ii.c:Nat):Int)<2))),.b 5 none 43 4,.e 6 none (.e2 3 6 (λii yV=> .ow (.sl ((G0.cells.map Cel.toD)++[(Cel.toD ⟨(ii.c:Nat),zeroV,[]⟩)])) 24 [.slice (some ⟨yV.b,0,none⟩) (G0.cells.length+1) yV.c])),.s 8 none 3 [(0,vA 6 (G0.cells.length+1))]] [[],[3],[],[],[],[],[7,6],[],[]] [] ?_ ?_
   ·show ∀i,i<9->_;refine On (On ?_ eh) (vI [3] [9] 0);refine On ?_ (tn [2] [8] [7,6] (h:=λγ wv R K M hK=>by have hc8:=M.pr 2 rfl;have M:=M.zeroCel (c:=((γ 3).c:Nat)) (kP.2 fP);exact mG (((M.pull 2 rfl).pull 1 rfl).pull 2 rfl) Bg dU rfl (.tmp 37) (.tmp 41) rfl rfl rfl rfl eb dP λg c' w' M'=>hK (R3 g c') w' M'))
    refine On (On ?_ eh) (tn [] [7] [] (h:=λγ wv R K M hK=>by go_simp;exact hK (mA wv.heap.size) _ M.all));refine On ?_ (tn [0,1] [4,5,6] [] (h:=λγ wv R K M hK=>by go_simp;go_at_call 93;exact v5 hC.out M (λhc=>ne g 2 _ hc dP dP) λx w' hx M'=>hK x w' ((M'.fact hx).perm (List.Perm.trans (List.Perm.swap _ _ _) (List.Perm.cons _ (List.Perm.swap _ _ _))))))
    exact On (On (On Oz eh) (e_ [3] 0)) eB
   intro Wg wv M;replace M:Mem _ _ _ _ [.bk _ _ _,.fa _,.fa _,.bk _ _ [_,_,_,_,_,_,_,_,_,_],.ow _ _ _,.bk _ _ [_,_,_,_],_,_,_,_,_]:=M;refine fA (dV (Sq (Sb M [5] 1 ?_)));refine Ss M 10 (λwv M=>Sz (aO ?_));refine kN results70 M 10 ?_;have MZ:=M.sel [4,6,7,0,1] dQ;simp only[lH,bH,bY,ah,ag]at MZ;have eap:(G0.cells++[(⟨((Wg 3).c:Nat),zeroV,[]⟩:Cel)]).map Cel.toD=(G0.cells.map Cel.toD)++[(Cel.toD ⟨((Wg 3).c:Nat),zeroV,[]⟩)]:=ab3;rw[<-eap]at MZ;clear eap;have MZ:=Mem.joinHeap (h:=⟨(G0.cells++[⟨((Wg 3).c:Nat),zeroV,[]⟩]),G0.names,G0.slots,G0.copies⟩) MZ To;exact Mem.outHeap hC.out (MZ.up [2,2]) (by rw[kD];simp only[aI,Aj,br,bL,gv,aY,bU,bf,Bu,We];omega) abl
  ·rw[h34];replace h34:=aa h34;refine Ra M [] ?_;refine lW (λh44=>?_) (λh44=>?_)
   ·rw[h44];replace h44:=aa h44;refine Sq (Sb M [5] 2 ?_);refine Sa M (λJ7 wv M=>?_);replace M:=M.up [4];have M:=M.str (t:=9) (s:=[119]) dQ;replace M:=M.up [2,1,2];refine nQ M jm (λJ8 wv M=>Sw ?_);refine Sb M [] 1 ?_;refine Ss M 6 (λwv M=>Sz ?_);refine CJ (M.sel [2,3,5,6,0,1,4,7,8,9] dQ) [some 5,some 5,some 7,some 9] [.o (J4.b) 2,.l 3 2,.v (.c (.pointer (some ⟨g,0,none⟩))),.i (k:Nat),.v (.e 4 (λnP=> .slice (some ⟨nP.b,0,none⟩) 3 3)),.v (.e 5 (λxh=> .int .i64 (xh.Z))),.v (.e 6 (λyV=> .slice (some ⟨yV.b,0,none⟩) 1 1)),.v (vA 7 (G0.slots.length+1)),.p 7,.u] [.e 4 (some 5) (oB 4 3 [.int .i64 (-1),.int .i64 (k:Nat),.int .i64 99]),.e 5 none (.e 5 (λxh=> .bk g 122 [.slice A n c,((xh.f 0)),((xh.f 1))])),.e 5 none (.e 5 (λxh=> .fa (ti n ((xh.f 0)) ((xh.f 1))))),.e 5 none (.e 5 (λxh=> .fa (xh.Z∈([(-1),(k:Nat),99]:List Int)))),.e 6 none (.e2 5 6 (λxh yV=> .bk (yV.b) 3 [.int .i64 (xh.Z)])),.e 7 none (.e2 5 7 (λxh Mg=> .ow (.sl ((G0.slots.map (.i .i64))++[(D.i .i64 (xh.Z))])) 26 [.slice (some ⟨Mg.b,0,none⟩) (G0.slots.length+1) Mg.c])),.s 9 none 3 [(2,vA 7 (G0.slots.length+1))]] [[],[3],[],[],[],[],[],[8,7],[],[]] [] ?_ ?_
    ·show ∀i,i<10->_;refine On (On ?_ eh) (vI [3] [10] 2);refine On ?_ (tn [2] [9] [8,7] (h:=λγ wv R K M hK=>by have hmz:=M.pr 2 rfl;simp only[aX,df,ce]at hmz;have M:=M.int (t:=3) (n:=(γ 5).Z) (kP.2 fP);exact mG (((M.pull 2 rfl).pull 1 rfl).pull 2 rfl) rD dU rfl (.tmp 52) (.tmp 57) rfl rfl rfl rfl eb dP λg c' w' M'=>hK (R3 g c') w' M'))
     refine On ?_ (tn [] [8] [] (h:=λγ wv R K M hK=>by go_simp;exact hK (mA wv.heap.size) _ M.all));refine On ?_ (tn [0,1,4] [5,6,7] [] (h:=λγ wv R K M hK=>by go_simp;go_at_call 95;exact Hn (l:=[(-1),(k:Nat),99]) hC.out M rfl rfl dQ dQ hK))
     exact On (On (On (On (On Oz eh) (e_ [3] 2)) eB) eB) (kX [4])
    intro γ7 wv M;replace M:Mem _ _ _ _ [.bk _ _ _,.fa _,.fa _,.bk _ _ _,.ow _ _ _,.bk _ _ [_,_,_,_],_,_,_,_,_,_]:=M;refine fA (dV (Sq (Sb M [5] 1 ?_)));refine Ss M 11 (λwv M=>Sz (aO ?_));refine kN results70 M 11 ?_;have MZ:=M.sel [8,6,4,0,1] dQ;simp only[lH,bH,bY,ah,ag]at MZ;have e1:(G0.names++[[119]]).map D.s=(G0.names.map D.s)++[(D.s [119])]:=ab3;have e2:(G0.slots++[((γ7 5).Z)]).map (D.i .i64)=(G0.slots.map (D.i .i64))++[(D.i .i64 ((γ7 5).Z))]:=ab3;rw[<-e1,<-e2]at MZ;clear e1 e2;have MZ:=Mem.joinHeap (h:=⟨G0.cells,G0.names++[[119]],G0.slots++[((γ7 5).Z)],G0.copies⟩) MZ To;exact Mem.outHeap hC.out (MZ.up [2,2]) (by rw[kD];simp only[aI,Aj,br,bL,gv,szD,aY,bU,bf];omega) abl
   ·rw[h44];replace h44:=aa h44;refine Ra M [] ?_;refine lW (λh60=>?_) (λh60=>?_)
    ·rw[h60];replace h60:=aa h60;refine Ra M [5] ?_;refine lW (λh65=>?_) (λh65=>?_)
     ·rw[h65];replace h65:=aa h65;have hlp:0<G0.cells.length:=by have z:=h65.out;simpa using z
      have XQ:k<G0.cells.length:=dP;obtain⟨zb,hzb⟩:=(M.pull 2 rfl).some0 underlying24 dP;rw[hzb]at M ⊢;clear hzb;obtain⟨x,qD⟩:∃s,G0.cells[k]?=some s:=⟨_,aw XQ⟩;have hx:=aa qD;clear qD;have j0:(0:Int)<=(k:Int):=dP;have j1:(k:Int)<(G0.cells.length:Int):=dP;have TE:x.parts.length<=820000:=acW;replace M:=M.up [2];obtain⟨Ei,ui,Ep,up,Ex,ux,Ec,uc,El,ul,Ez,uz,pre,post,ca,cb,iZ,-,wx1,Qp,Qq,Qr,M,jO⟩:=Mem.cellOut M hx.out;refine CJ (M.sel [0,6,13,1,2,3,4,5,7,8,9,10,11,12,14,15,16] dQ) [some 14,some 11,none] [.o (J4.b) 0,.l 2 0,.i (k:Nat),.p 2,.p 2,.p 2,.o zb (k*10),.o zb (k*10+9),.v (.c (.slice Ez x.parts.length uz)),.p 3,.v (.e 10 (λqz=> .slice (some ⟨qz.b,0,none⟩) 1 1)),.v (vA 11 (x.parts.length+1)),.p 5,.p 5,.u] [.e 10 none (oB 10 3 [.int .i64 (k:Nat)]),.e 11 none (oA 11 (.sl ((x.parts.map (.i .i64))++[(D.i .i64 (k:Nat))])) 26 (x.parts.length+1)),.e 14 none (.e 11 (λae7=> .bk (zb) 43 (pre++([.int .i64 x.count,.int .i64 x.value.kind,.slice Ei x.value.items.length ui,.slice Ep x.value.parts.length up,.slice Ex x.value.names.length ux,.slice Ec x.value.cls.length uc,.slice El x.value.levels.length ul,.int .i64 x.value.code,.int .i64 x.value.env,.slice (some ⟨ae7.b,0,none⟩) (x.parts.length+1) ae7.c]++post))))] [[],[2],[],[],[2],[],[],[],[0],[],[],[3],[],[],[]] [] ?_ ?_
      ·show ∀i,i<15->_;refine On ?_ (tn [0] [5] [] (h:=λγ wv R K M hK=>by have kB:=M.bl 0 rfl;have c9:wv.cell? ⟨zb,k*10+9,none⟩=some _:=kB.seg iZ (j:=9) rfl;have f9:=kB.frozen (k*10+9);have hg:=kB.lt;go_simp;exact hK (mA 0) _ (M.putSeg iZ (j:=9) dR)))
       refine On (On ?_ eh) eh;refine On ?_ (tn [1] [4] [3] (h:=λγ wv R K M hK=>by have M:=M.int (t:=3) (n:=(k:Nat)) (kP.2 fP);exact mG (((M.pull 2 rfl).pull 1 rfl).pull 2 rfl) rD dU rfl (.tmp 74) (.tmp 76) rfl rfl rfl rfl eb dP λg c' w' M'=>hK (R3 g c') w' M'))
       refine On (On ?_ eB) (kX [3]);refine On ?_ (mW [0] (h:=λγ wv K M hK=>by have kB:=M.bl 0 rfl;have c9:wv.cell? ⟨zb,k*10+9,none⟩=some _:=kB.seg iZ (j:=9) rfl;clear kB M;go_simp;exact hK))
       exact On (On (On (On (On (On (On (On Oz eh) (e_ [2] 0)) eB) eh) (e_ [2] 0)) eB) eh) eh
      intro ajc wv M;replace M:Mem _ _ _ _ [_,.bk _ _ _,.ow _ _ _,.bk _ _ _,_,_,_,_,_,_,_,_,_,_,_,_,_,_]:=M;have eap:(x.parts++[(k:Int)]).map (D.i .i64)=(x.parts.map (D.i .i64))++[(D.i .i64 (k:Nat))]:=ab3;rw[<-eap]at M;clear eap;replace M:=M.up [10,10,4,10,10,10,10,10,10];replace M:=jO _ _ _ _ (⟨x.count,x.value,x.parts++[(k:Int)]⟩:Cel) _ _ _ _ _ _ _ _ _ _ _ _ _ _ _ _ _ _ wx1 Qp Qq Qr M;refine fA (dV (Sq (Sb M [1] 1 ?_)));refine Ss M 9 (λwv M=>Sz (aO ?_));refine kN results70 M 9 ?_;have MZ:=M.sel [0,5,6,3,4] dQ;simp only[lH,bH,bY,ah,ag]at MZ;have MZ:=Mem.joinHeap (h:=(eG G0 k (⟨x.count,x.value,x.parts++[(k:Int)]⟩:Cel))) MZ To;exact Mem.outHeap hC.out (MZ.up [2,2]) (by have g1:=wT G0 k (⟨x.count,x.value,x.parts++[(k:Int)]⟩:Cel);rw[Bu]at g1;have g2:=hx.out;have g3:=iI g2;rw[g3,Bu]at g1;simp only[aY,bU,bf]at g1;omega) abl
     ·rw[h65];replace h65:=aa h65;refine bd (fA (dV (Sq (Sb M [5] 1 ?_))));refine Ss M 8 (λwv M=>Sz (aO ?_));refine kN results70 M 8 ?_;have MZ:=M.sel [2,3,4,0,1] dQ;simp only[lH,bH,bY,ah,ag]at MZ;have MZ:=Mem.joinHeap (h:=G0) MZ To;exact Mem.outHeap hC.out (MZ.up [2,2]) dP abl
    ·rw[h60];replace h60:=aa h60;refine bd (fA (dV (Sq (Sb M [5] 1 ?_))));refine Ss M 8 (λwv M=>Sz (aO ?_));refine kN results70 M 8 ?_;have MZ:=M.sel [2,3,4,0,1] dQ;simp only[lH,bH,bY,ah,ag]at MZ;have MZ:=Mem.joinHeap (h:=G0) MZ To;exact Mem.outHeap hC.out (MZ.up [2,2]) dP abl
noncomputable section
def Gh.H (x:Gh):Hp:=@Classical.epsilon Hp ⟨⟨[],[],[],0⟩⟩ λv=>v.toD=x.d
def Gh.U (x:Gh):Hp × Hop:=@Classical.epsilon (Hp × Hop) ⟨(⟨[],[],[],0⟩,⟨0,[],[],0,zeroV⟩)⟩ λv=>D.st [v.1.toD,v.2.toD]=x.d
end
def HpB (K:Nat) (h:Hp):Prop:=szD h.toD<=K/\h.copies<=14
theorem ac6 {u v:Hp} (h:u.toD=v.toD):u.copies=v.copies:=by rw[uP,uP]at h;injection h with h;injection h with _ h;injection h with _ h;injection h with _ h;injection h with h;injection h
def aey (w:World) (e:Ending) (w':World):Prop:=∃(h:Hp) (x:Hop) (cs cx:List Value),HpB 830000 h/\szD x.toD<=175000/\e= .returned (.tuple #[.agg cs.toArray,.agg cx.toArray])/\∃F G,own prog w' h.toD 28 F cs/\own prog w' x.toD 40 G cx/\Fresh w.heap.size (F++G)/\Below w.heap.size w w'
section
variable {w0 w w':World} {X:List Nat} {A:Option Addr} {n c g:Nat} {V0 V1:Value} {R:List As} {f:Nat} {args:Array Value} {Ψ:Ending->World->Prop} {K:Nat}
theorem Mem.outTwo {P:Program} {d d2:D} {t t2:TypeId} {cs cx:List Value} (M:Mem P w [] w' (.ow d t cs:: .ow d2 t2 cx::R)):∃F G,own P w' d t F cs/\own P w' d2 t2 G cx/\Fresh w.heap.size (F++G)/\Below w.heap.size w w':=by
 have hb:=M.bel;obtain⟨hm,FF,s1,n1,hx⟩:=M;obtain⟨F1,F2,rfl,o1,s2⟩:=fJ.1 s1;obtain⟨F3,F4,rfl,o2,s3⟩:=fJ.1 s2;rw[<-aS]at n1 hx;refine⟨F1,F3,o1,o2,⟨(aE.1 n1).1,λy hy=>?_⟩,hb⟩;rcases hx y (bJ _ hy) with h1|h1
 ·exact absurd h1 df
 ·exact h1
theorem akv (hC:Fe w0 X A n g) (M:Mem prog w0 X w (.bk g 122 [.slice A n c,V0,V1]:: .fa (ti n V0 V1)::R)) (hc:CuA A n c w g->Calls prog f args w (DHp K A n c w g))
 (hK:∀(x:Gh) w',Mem prog w0 X w' (.bk g 122 [.slice A n c,x.f 0,x.f 1]:: .fa (ti n (x.f 0) (x.f 1)):: .fa (HpB K x.H):: .ow x.H.toD 28 [.slice (x.A 1) x.H.cells.length (x.C 1),.slice (x.A 2) x.H.names.length (x.C 2),.slice (x.A 3) x.H.slots.length (x.C 3),x.H.copies]::R)->Ψ (.returned (.agg #[.slice (x.A 1) x.H.cells.length (x.C 1),.slice (x.A 2) x.H.names.length (x.C 2),.slice (x.A 3) x.H.slots.length (x.C 3),x.H.copies])) w'):Calls prog f args w Ψ:=
 (hc (M.cua hC)).mono λe w' q=>by
  obtain⟨v,cs,F,hs,rfl,ho,hF,hd⟩:=q
  let u:Hp:=@Classical.epsilon Hp ⟨⟨[],[],[],0⟩⟩ λz=>z.toD=v.toD
  have hu:u.toD=v.toD:=@Classical.epsilon_spec Hp (λz=>z.toD=v.toD) ⟨v,rfl⟩;have hb:HpB K u:=⟨by rw[hu];exact hs.1,by rw[ac6 hu];exact hs.2⟩;rw[<-hu]at ho;obtain⟨V2,V3,M'⟩:=M.drOwn hd ho hF;obtain⟨Ah,ch,An,cn,Ak,ck,rfl,-⟩:=gV (M'.rp 2 rfl);exact hK ⟨0,none,0,λk=>[V2,V3].getD k undef,λk=>([none,Ah,An,Ak]:List (Option Addr)).getD k none,λk=>([0,ch,cn,ck]:List Nat).getD k 0,v.toD⟩ w' ((M'.fact (p:=HpB K u) hb).perm (List.Perm.trans (List.Perm.swap _ _ _) (List.Perm.cons _ (List.Perm.swap _ _ _))))
theorem aku (hc:Calls prog f args w (aey w)) (M:Mem prog w0 X w R)
 (hK:∀(x:Gh) w',Mem prog w0 X w' (.fa (HpB 830000 x.U.1/\szD x.U.2.toD<=175000):: .ow x.U.1.toD 28 [.slice (x.A 1) x.U.1.cells.length (x.C 1),.slice (x.A 2) x.U.1.names.length (x.C 2),.slice (x.A 3) x.U.1.slots.length (x.C 3),x.U.1.copies]:: .ow x.U.2.toD 40 [x.U.2.kind,sv x.U.2.name,sv x.U.2.frm,x.U.2.at_,x.U.2.value.kind,.slice (x.A 4) x.U.2.value.items.length (x.C 4),.slice (x.A 5) x.U.2.value.parts.length (x.C 5),.slice (x.A 6) x.U.2.value.names.length (x.C 6),.slice (x.A 7) x.U.2.value.cls.length (x.C 7),.slice (x.A 8) x.U.2.value.levels.length (x.C 8),x.U.2.value.code,x.U.2.value.env]::R)->Ψ (.returned (.tuple #[.agg #[.slice (x.A 1) x.U.1.cells.length (x.C 1),.slice (x.A 2) x.U.1.names.length (x.C 2),.slice (x.A 3) x.U.1.slots.length (x.C 3),x.U.1.copies],.agg #[x.U.2.kind,sv x.U.2.name,sv x.U.2.frm,x.U.2.at_,x.U.2.value.kind,.slice (x.A 4) x.U.2.value.items.length (x.C 4),.slice (x.A 5) x.U.2.value.parts.length (x.C 5),.slice (x.A 6) x.U.2.value.names.length (x.C 6),.slice (x.A 7) x.U.2.value.cls.length (x.C 7),.slice (x.A 8) x.U.2.value.levels.length (x.C 8),x.U.2.value.code,x.U.2.value.env]])) w'):Calls prog f args w Ψ:=
 hc.mono λe w' q=>by
  obtain⟨v,o,cs,cx,hs,hz,rfl,F,G,o1,o2,hF,hb⟩:=q
  let u:Hp × Hop:=@Classical.epsilon (Hp × Hop) ⟨(⟨[],[],[],0⟩,⟨0,[],[],0,zeroV⟩)⟩ λz=>D.st [z.1.toD,z.2.toD]=D.st [v.toD,o.toD]
  have hu:D.st [u.1.toD,u.2.toD]=D.st [v.toD,o.toD]:=@Classical.epsilon_spec (Hp × Hop) (λz=>D.st [z.1.toD,z.2.toD]=D.st [v.toD,o.toD]) ⟨(v,o),rfl⟩;obtain⟨hu1,hu2⟩:u.1.toD=v.toD/\u.2.toD=o.toD:=by injection hu with hu;injection hu with h1 hu;injection hu with h2 hu;exact⟨h1,h2⟩
  have hp:HpB 830000 u.1/\szD u.2.toD<=175000:=⟨⟨by rw[hu1];exact hs.1,by rw[ac6 hu1];exact hs.2⟩,by rw[hu2];exact hz⟩;rw[<-hu1]at o1;rw[<-hu2]at o2;have M':Mem prog w0 X w' (.ow u.1.toD 28 cs:: .ow u.2.toD 40 cx::R):=Mem.step (C:=[]) (C':=[_,_]) M λH hH _=>by rw[Sats]at hH;subst hH;exact⟨F++G,fJ.2 ⟨F,G,rfl,o1,iQ.2 o2⟩,hF.1,λy hy=> .inr (hF.2 y hy),Mod.of_below hb⟩
  obtain⟨Ah,ch,An,cn,Ak,ck,rfl,-⟩:=gV (M'.rp 0 rfl);obtain⟨A4,c4,A5,c5,A6,c6,A7,c7,A8,c8,rfl,-⟩:=gQ (k:=u.2.kind) (nm:=u.2.name) (fr:=u.2.frm) (a:=u.2.at_) (v:=u.2.value) (M'.rp 1 rfl);exact hK ⟨0,none,0,λ_=>undef,λk=>([none,Ah,An,Ak,A4,A5,A6,A7,A8]:List (Option Addr)).getD k none,λk=>([0,ch,cn,ck,c4,c5,c6,c7,c8]:List Nat).getD k 0,D.st [v.toD,o.toD]⟩ w' (M'.fact hp)
end
theorem ac8 {A:Option Addr} {n c:Nat} {bs:List UInt8} (w:World) (hr:Reads zq 1 w w.heap.size A n bs) (hn:n<=1048576):Calls prog 14 #[.slice A n c] w λe w'=>aey w e w':=by
 have M0:Mem prog w [] w []:=Mem.start;have M:=M0.up [];go_enter func14,ntmps14;refine Sq (Sa M (λJ1 wv M=>?_));refine Sa M (λJ2 wv M=>Sz (Sq ?_));refine Sb M [] 1 ?_;refine Sc (agk hr (af _) (λx hx=>absurd hx df) hn M λJ3 wv M=>Sp ?_);refine Sb M [] 1 (Sz ?_);have hC:=aa (M.pr 2 rfl);generalize J3.b=g at M hC ⊢;refine Sq (Sb M [] 1 ?_);refine Sc (akv hC.out M (λhc=>adK g _ hc) λJ4 wv M=>Sp ?_);refine Sa M (λJ5 wv M=>?_);refine Ss M 0 (λwv M=>Sz ?_);refine mL (M.sel [0,1,2,6,7,3,4,5] dQ) [none,some 2,some 2,some 4,some 3] [.la 0,.o g 0,.v (.e 2 (λqB=> .agg #[.int .i64 (qB.O).kind,sv (qB.O).name,sv (qB.O).frm,.int .i64 (qB.O).at_,.int .i64 (qB.O).value.kind,.slice ((qB.A 1)) (qB.O).value.items.length ((qB.C 1)),.slice ((qB.A 2)) (qB.O).value.parts.length ((qB.C 2)),.slice ((qB.A 3)) (qB.O).value.names.length ((qB.C 3)),.slice ((qB.A 4)) (qB.O).value.cls.length ((qB.C 4)),.slice ((qB.A 5)) (qB.O).value.levels.length ((qB.C 5)),.int .i64 (qB.O).value.code,.int .i64 (qB.O).value.env])),.u,.u] [.e 2 none (.e 2 (λqB=> .bk g 122 [.slice A n c,((qB.f 0)),((qB.f 1))])),.e 2 none (.e 2 (λqB=> .fa (ti n ((qB.f 0)) ((qB.f 1))))),.e 2 none (.e 2 (λqB=> .fa (szD (qB.O).toD<=175000))),.e 2 none (.e 2 (λqB=> .ow (Hop.toD (qB.O)) 40 [.int .i64 (qB.O).kind,sv (qB.O).name,sv (qB.O).frm,.int .i64 (qB.O).at_,.int .i64 (qB.O).value.kind,.slice ((qB.A 1)) (qB.O).value.items.length ((qB.C 1)),.slice ((qB.A 2)) (qB.O).value.parts.length ((qB.C 2)),.slice ((qB.A 3)) (qB.O).value.names.length ((qB.C 3)),.slice ((qB.A 4)) (qB.O).value.cls.length ((qB.C 4)),.slice ((qB.A 5)) (qB.O).value.levels.length ((qB.C 5)),.int .i64 (qB.O).value.code,.int .i64 (qB.O).value.env])),.e 3 none (.c (.bk (J1.b) 28 [.slice ((J4.A 1)) (J4.H).cells.length ((J4.C 1)),.slice ((J4.A 2)) (J4.H).names.length ((J4.C 2)),.slice ((J4.A 3)) (J4.H).slots.length ((J4.C 3)),.int .i64 (J4.H).copies])),.a 4 none 3 2] [[0],[],[],[],[]] [] ?_ ?_
 ·show ∀i,i<5->_;refine On ?_ (tn [3] [10] [] (h:=λγ wv R K M hK=>by have kB:=M.bl 0 rfl;have c0:wv.cell? _=some _:=kB.cell 0;have f0:=kB.frozen 0;have c1:wv.cell? _=some _:=kB.cell 1;have f1:=kB.frozen 1;have c2:wv.cell? _=some _:=kB.cell 2;have f2:=kB.frozen 2;have c3:wv.cell? _=some _:=kB.cell 3;have f3:=kB.frozen 3;have c4:wv.cell? _=some _:=kB.cell 4;have f4:=kB.frozen 4;have c5:wv.cell? _=some _:=kB.cell 5;have f5:=kB.frozen 5;have c6:wv.cell? _=some _:=kB.cell 6;have f6:=kB.frozen 6;have c7:wv.cell? _=some _:=kB.cell 7;have f7:=kB.frozen 7;have c8:wv.cell? _=some _:=kB.cell 8;have f8:=kB.frozen 8;have c9:wv.cell? _=some _:=kB.cell 9;have f9:=kB.frozen 9;have c10:wv.cell? _=some _:=kB.cell 10;have f10:=kB.frozen 10;have c11:wv.cell? _=some _:=kB.cell 11;have f11:=kB.frozen 11;have hg:=kB.lt;go_simp;exact hK (mA 0) _ ((((((((((((M.put 0 _).put 1 _).put 2 _).put 3 _).put 4 _).put 5 _).put 6 _).put 7 _).put 8 _).put 9 _).put 10 _).put 11 _)))
  refine On ?_ (tn [4] [9] [] (h:=λγ wv R K M hK=>uC));refine On ?_ (tn [1,2] [5,6,7,8] [] (h:=λγ wv R K M hK=>by go_simp;go_at_call 35;exact ac_ hC.out M (λhc=>ab4 g _ hc) hK))
  refine On ?_ eB;refine On ?_ (mW [0] (h:=λγ wv K M hK=>lC));exact Oz
 intro i7 wv M;replace M:Mem _ _ _ _ [_,.bk _ _ _,.fa _,.fa _,.ow _ _ _,.bk _ _ _,.bk _ _ [_,_,_,_,_,_,_,_,_,_,_,_],_,_,_]:=M;refine aO (rt2 results14 M 5 6 ?_);exact⟨(J4.H),((i7 2).O),_,_,M.pr 7 rfl,M.pr 3 rfl,rfl,(M.sel [8,4] dQ).outTwo⟩
def HcI (h:Hp) (x:Hop) (R:Hp):Prop:=fG h=true/\fG R=true/\Keeps h R x.name/\(x.kind=2->R.copies=h.copies+(if (celD h (slotD h x.name)).count=1 then 0 else 1))/\szD R.toD<=4194304/\szD h.toD<=4194304/\(0<=h.copies/\h.copies<=14)/\0<=R.copies/\R.copies<=15
theorem aex (h:Hp) (x:Hop) (hz:szD h.toD<=830000) (hc:h.copies<=14) (hxz:szD x.toD<=175000):∃(R:Hp) (r:Str),StI h x R r/\StS h x R r/\szD R.toD<=4194304/\(r=[]->HcI h x R):=by
 have hzx:=wG x;have hb:bigV x.value:=by unfold bigV;omega
 cases hk:fG h with
 |false=>
  obtain⟨kd,nm,fr,pt,v⟩:=x;exact⟨_,_,λcs cx w a b=>PB h kd pt nm fr v dP hk hb cs cx w a b,λcs cx w a b=>P_ h kd pt nm fr v dP hk hb cs cx w a b,by rw[Jr];omega,λe=>by cases e⟩
 |true=>
  cases hx:je x with
  |false=>
   obtain⟨kd,nm,fr,pt,v⟩:=x;exact⟨_,_,λcs cx w a b=>PC h kd pt nm fr v dP hk hx hb cs cx w a b,λcs cx w a b=>Qa h kd pt nm fr v dP hk hx hb cs cx w a b,by rw[Jr];omega,λe=>by cases e⟩
  |true=>
   obtain⟨R,r,a,b,c1,c2⟩:=YR hk dP hx;obtain⟨d1,d2,-,d4,d5⟩:=c2 dP;exact⟨R,r,a,b,by omega,λe=>⟨hk,d1,d4,λk=>(d5 e k).2,by omega,by omega,⟨DE hk,hc⟩,DE d1,by omega⟩⟩
theorem adq {h:Hp} (hk:fG h=true) {i:Nat} {nm:Str} (hi:h.names[i]?=some nm):∃y:Int,h.slots[i]?=some y/\acD h nm=(asm h 3 y,true)/\isVec (asm h 3 y)=true/\slotD h nm=y/\FP h 3 y:=by
 have S:=SL.of hk;have hl:=S.l;have hil:=(ay.1 hi).1;have mT:=abG S hi;have hn:hasN h nm=true:=by unfold hasN;rw[mT];simp
 obtain⟨y,hy⟩:∃y,h.slots[i]?=some y:=⟨_,aw dP⟩;have hs:slotD h nm=y:=by unfold slotD;rw[mT,aU,hy];rfl
 obtain⟨f1,f2⟩:=S.f y (aA hy);exact⟨y,hy,by rw[acT hk hn,hs],f2,hs,f1⟩
theorem adG {h:Hp} {x:Hop} {R:Hp} (H:HcI h x R) {i:Nat} {nm:Str} (hi:h.names[i]?=some nm):∃(v v':Vec) (k:Nat) (xc:Cel),acD R nm=(v',true)/\acD h nm=(v,true)/\(nm≠x.name->v'=v)/\isVec v=true/\h.slots[i]?=some (k:Int)/\h.cells[k]?=some xc/\(0<xc.count/\xc.count<=4194305)/\(nm=x.name->x.kind=2->R.copies=h.copies+(if xc.count=1 then 0 else 1)):=by
 obtain⟨hk,hkR,Kp,hcp,-,hz,-⟩:=H;obtain⟨y,y1,y2,y3,y4,y5⟩:=adq hk hi;obtain⟨a,b⟩:=Kp i nm hi;obtain⟨u,u1,u2,-,-,-⟩:=adq hkR a;have hpos:=aao y5;have zd:∃(k:Nat) (xc:Cel),y=(k:Int)/\h.cells[k]?=some xc/\celD h y=xc:=by
  unfold celD at hpos;split at hpos
  ·next h0=>
   obtain⟨k,rfl⟩:=bQ h0;cases hx:h.cells[k]? with
   |none=>rw[aU,hx]at hpos;exact absurd hpos dQ
   |some xc=>exact⟨k,xc,rfl,hx,iI hx⟩
  ·exact absurd hpos dQ
 obtain⟨k,xc,rfl,hx,Zw⟩:=zd;rw[Zw]at hpos;have hcb:xc.count<=4194305:=by have:=xP hk hz (k:Int);rw[Zw]at this;omega
 refine⟨_,_,k,xc,u2,y2,λjC=>?_,y3,y1,hx,⟨hpos,hcb⟩,λe ek=>?_⟩
 ·obtain⟨z,z',q1,q2,q3⟩:=b jC;have e1:z=(k:Int):=by rw[y1]at q1;injection q1 with q1;exact q1.symm
  have e2:z'=u:=by rw[u1]at q2;injection q2 with q2;exact q2.symm
  rw[<-e1,<-e2];exact q3
 ·have:=hcp ek;rw[<-e,y4,Zw]at this;exact this
theorem adM {h:Hp} {s:Str} {v:Vec} {f:Nat} {args:Array Value} {w:World} (he:acD h s=(v,true)) (hc:Calls prog f args w (RdP h s w)):Calls prog f args w (eH v.toD 38 (.bool true) w):=
 hc.mono λe w' q=>by unfold RdP at q;rw[he]at q;exact q
theorem Np (A:Option Addr) (n c:Nat) (w:World) (hn:n<=maxLen):
 Calls prog 7 #[.slice A n c] w λe w'=>e= .returned (.bool (decide ((1048576:Int)<(n:Int))))/\w=w':=by
 unfold maxLen at hn;go_enter func7,ntmps7;go_wp2;go_ret;exact⟨rfl,rfl⟩
theorem acH (A:Option Addr) (n c:Nat) (bs:List UInt8) (w:World) (hr:Reads zq 1 w w.heap.size A n bs) (hn:n<=maxLen):
 Calls prog 4 #[.slice A n c] w λe w'=>e= .returned (.bool true)/\Below w.heap.size w w':=by
 by_cases hbig':(1048576:Int)<(n:Int)
 ·have ga:decide ((1048576:Int)<(n:Int))=true:=by simpa using hbig'
  have M:Mem prog w [] w []:=Mem.start;go_enter func4,ntmps4;refine Ra M [] (ae (Sq ?_));refine Sb M [] 1 ?_;refine Sc (QF (v:= .bool true) (by have z:=Np A n c w hn;rw[ga]at z;exact z) M λJ1 wv M=>Sp (Sz ?_));refine ct ?_;refine Ra M [] (aO (fI ?_));refine vQ results4 ?_;exact⟨rfl,M.bel⟩
 have ga:decide ((1048576:Int)<(n:Int))=false:=by simpa using hbig'
 have hbn:n<=1048576:=dP;have M:Mem prog w [] w []:=Mem.start;go_enter func4,ntmps4;refine Ra M [] (ae (Sq ?_));refine Sb M [] 1 ?_;refine Sc (QF (v:= .bool false) (by have z:=Np A n c w hn;rw[ga]at z;exact z) M λJ1 wv M=>Sp (Sz ?_));refine gk (Sq ?_);refine Sb M [] 1 ?_;refine Sc (aku (ac8 _ (hr.below M.bel |>.more M.mod.size) hbn) M λJ2 wv M=>Sp ?_);refine Sb M [] 3 ?_;refine Sa M (λJ3 wv M=>?_);refine Sa M (λJ4 wv M=>?_);refine Ss M 1 (λwv M=>?_);refine Ss M 0 (λwv M=>Sz ?_);obtain⟨h,hh⟩:∃h,J2.U.1=h:=⟨_,rfl⟩;obtain⟨x,hxx⟩:∃x,J2.U.2=x:=⟨_,rfl⟩;rw[hh,hxx]at M ⊢;clear hh hxx;have hfa:=M.pr 2 rfl;obtain⟨R',r,HI',Zc,hRz,l7⟩:=aex h x hfa.1.1 hfa.1.2 hfa.2;have HI:=aa HI';have HS:=aa Zc;have hok:=aa l7;clear HI' Zc l7;refine Sq (Sb M [0,1] 2 ?_);replace M:=M.up [4,4];refine Sc (T2 (HI.out _ _ _ (M.rp 0 rfl) (M.rp 1 rfl)) M λJ5 wv M=>Sp ?_);refine Sb M [] 3 ?_;refine Sa M (λJ6 wv M=>?_);refine Ss M 0 (λwv M=>?_);refine Sb M [] 1 (Sz (Sq ?_));refine Sb M [4,5] 2 ?_;replace M:=M.up [3,3];refine Sc (T2 (HS.out _ _ _ (M.rp 0 rfl) (M.rp 1 rfl)) M λJ7 wv M=>Sp ?_);refine Sb M [] 3 ?_;refine Sa M (λJ8 wv M=>?_);refine Ss M 0 (λwv M=>?_);refine Sb M [] 1 (Sz (ae ?_));rcases ac r.isEmpty with WE|WE
 ·obtain rfl:r=[]:=dh.1 WE;clear WE;have HC:=aa (hok.out rfl);have hRk:=aa HC.out.2.1;refine Ra M [] ?_;refine gk (ae (Sq ?_));refine Sb M [4] 1 ?_;replace M:=M.up [5];refine Sc (f_ (v:= .bool true) (by have z:=k9 R' hRz _ _ (M.rp 0 rfl);rw[hRk.out]at z;exact z) M λJ9 wv M=>Sp ?_);refine Sb M [1,5] 8 (Sz ?_);refine gk (ae ?_);replace M:=M.up [3];obtain⟨To,M⟩:=Mem.openHeapE M;replace M:=M.up [];refine Ra M [] (aJ ?_);refine fy (ι:=Nat × Option Addr × Nat × Option Addr × Nat × Option Addr × Nat) [2,10,11,12,13,14,54,55,56,57,58,59,60,61,62,63,64,65,66,67,68,69,70,71,72,73,74,75,76,77,78,79,80,81,82,83,84,85,86,87,88,89,90,91,92,93,94,95,96,97,98,99,100,101,102,103,104,105,106,107,108,109,110,111,112,113,114,115,116,117,118,119,120,121,122,123,124,125,126,127,128,129,130,131,132,133,134,135,136] (λfu=>match fu with|(i,Ac,cc,An,cn,Ak,cs)=>[(9,.int .i64 (i:Nat))]) (λfu=>match fu with|(i,Ac,cc,An,cn,Ak,cs)=>i<=h.names.length) (λfu=>match fu with|(i,Ac,cc,An,cn,Ak,cs)=>[.ow (.sl (h.cells.map Cel.toD)) 24 [.slice Ac h.cells.length cc],.ow (.sl (h.names.map .s)) 25 [.slice An h.names.length cn],.ow (.sl (h.slots.map (.i .i64))) 26 [.slice Ak h.slots.length cs],.bk (J3.b) 28 [.slice Ac h.cells.length cc,.slice An h.names.length cn,.slice Ak h.slots.length cs,h.copies],.ow (Hp.toD R') 28 [.slice ((J7.A 1)) R'.cells.length ((J7.C 1)),.slice ((J7.A 2)) R'.names.length ((J7.C 2)),.slice ((J7.A 3)) R'.slots.length ((J7.C 3)),R'.copies],.bk (J8.b) 28 [.slice ((J7.A 1)) R'.cells.length ((J7.C 1)),.slice ((J7.A 2)) R'.names.length ((J7.C 2)),.slice ((J7.A 3)) R'.slots.length ((J7.C 3)),R'.copies],.bk (J4.b) 40 [x.kind,sv x.name,sv x.frm,x.at_,x.value.kind,.slice ((J2.A 4)) x.value.items.length ((J2.C 4)),.slice ((J2.A 5)) x.value.parts.length ((J2.C 5)),.slice ((J2.A 6)) x.value.names.length ((J2.C 6)),.slice ((J2.A 7)) x.value.cls.length ((J2.C 7)),.slice ((J2.A 8)) x.value.levels.length ((J2.C 8)),x.value.code,x.value.env]]) (λfu=>match fu with|(i,Ac,cc,An,cn,Ak,cs)=>h.names.length - i) (0,(((J2.A 1))),(((J2.C 1))),(((J2.A 2))),(((J2.C 2))),(((J2.A 3))),(((J2.C 3)))) (dj _) (M.sel [0,1,2,9,5,4,8] dQ) ?_;rintro⟨i,Ac,cc,An,cn,Ak,cs⟩ Mf W1 K1 h1 M rH;try dsimp only at h1 M ⊢
  refine uM ?_;have hnl:h.names.length<=4194304:=by have z:=HC.out.2.2.2.2.2.1;rw[kD]at z;omega
  have hsn:h.names.length=h.slots.length:=(jc HC.out.1).1;replace hsn:=aa hsn;refine ae (Ra M [3] ?_);refine lW (λhlt=>?_) (λhlt=>?_)
  ·rw[hlt];replace hlt:=aa hlt;refine bd (dV (ae (aJ ?_)));have hlj:i<h.names.length:=iS;obtain⟨nm,K_⟩:∃s,h.names[i]?=some s:=⟨_,aw hlj⟩;obtain⟨vv,vw,k,xc,aiN,aiM,adH,aiQ,ahS,afw,hpos,ait⟩:=adG HC.out K_;have hlk:k<h.cells.length:=(ay.1 afw).1;have hls:i<h.slots.length:=by have z:=hsn.out;omega
   obtain⟨nb,hnb⟩:=(M.pull 1 rfl).some0 underlying25 dP;subst hnb;obtain⟨sb,tV⟩:=(M.pull 2 rfl).some0 underlying26 dP;subst tV;obtain⟨cb,hcb⟩:=(M.pull 0 rfl).some0 underlying24 dP;subst hcb;have hnm:=aa K_;have ZG:=aa aiN;have oD:=aa aiM;have UI:=aa adH;have hvv:=aa aiQ;have TB:=aa ahS;have hce:=aa afw;have hcp:=aa ait;clear K_ aiN aiM adH aiQ ahS afw ait;have j0:(0:Int)<=(i:Int):=dP;have j1:(i:Int)<(h.names.length:Int):=dP;have j2:(i:Int)<(h.slots.length:Int):=dP;have j3:(0:Int)<=(k:Int):=dP;have j4:(k:Int)<(h.cells.length:Int):=dP;refine mL (M.sel [1,3,4,5,0,2,6] dQ) [none,none,none,none] [.la 3,.o (J3.b) 1,.l 1 1,.i (i:Nat),.o nb i,.v (.c (sv nm)),.v (vT 6 vw.kind vw.items.length vw.parts.length vw.names.length vw.cls.length vw.levels.length vw.code vw.env (.bool true)),.p 0,.x 0 0,.x 1 1,.q 10 0,.u,.p 2] [.e 6 none (oW 6 (vw.toD) 38 vw.kind vw.items.length vw.parts.length vw.names.length vw.cls.length vw.levels.length vw.code vw.env),.e 10 (some 11) (oB 10 38 z8),.x 11 none 5 6 0] [[3],[],[1],[],[],[0],[2],[],[],[],[],[],[]] [] ?_ ?_
   ·show ∀i,i<13->_;refine On (On (On (On (On (On ?_ eB) eB) eB) (kX [5])) (vJ [5] [6])) eB;refine On ?_ (tn [] [4] [2] (h:=λγ wv R K M hK=>by go_simp;go_at_call 15;exact AH (adM ZG.out (ac0 R' hRz nm _ _ (M.rp 0 rfl) (λw hr=>kT R' hRz _ _ hr))) M hK))
    refine On ?_ (mW [0] (h:=λγ wv K M hK=>abT));refine On (On (On (On ?_ eh) (e_ [1] 1)) eB) eh;refine On ?_ (mW [3] (h:=λγ wv K M hK=>lC));exact Oz
   intro Ho wv M;replace M:Mem _ _ _ _ [_,_,_,_,.ow _ _ _,.bk _ _ [_,_,_,_,_,_,_,_],_,_,_]:=M;refine mL (M.sel [0,1,6,7,2,3,4,5,8] dQ) [none,none,none,none] [.la 1,.o (J3.b) 1,.x 1 1,.i (i:Nat),.o nb i,.v (.c (sv nm)),.v (vT 6 vv.kind vv.items.length vv.parts.length vv.names.length vv.cls.length vv.levels.length vv.code vv.env (.bool true)),.p 0,.x 0 0,.x 1 1,.q 10 0,.u,.p 2] [.e 6 none (oW 6 (vv.toD) 38 vv.kind vv.items.length vv.parts.length vv.names.length vv.cls.length vv.levels.length vv.code vv.env),.e 10 (some 11) (oB 10 38 z8),.x 11 none 5 6 0] [[1],[],[1],[],[],[0],[2,0,3],[],[],[],[],[],[]] [] ?_ ?_
   ·show ∀i,i<13->_;refine On (On (On (On (On (On ?_ eB) eB) eB) (kX [5])) (vJ [5] [6])) eB;refine On ?_ (tn [] [4] [2,0,3] (h:=λγ wv R K M hK=>by go_simp;go_at_call 16;exact AH (adM oD.out (ac2 h HC.out.2.2.2.2.2.1 nm _ _ ((Mem.joinHeap (h:=h) M To).rp 0 rfl) (λw hr=>k9 h HC.out.2.2.2.2.2.1 _ _ hr))) M hK))
    refine On ?_ (mW [0] (h:=λγ wv K M hK=>abT));refine On (On (On (On ?_ eh) (e_ [1] 1)) eB) eh;refine On ?_ (mW [1] (h:=λγ wv K M hK=>lC));exact Oz
   intro Wf wv M;replace M:Mem _ _ _ _ [_,_,_,_,.ow _ _ _,.bk _ _ [_,_,_,_,_,_,_,_],_,_,_,_,_]:=M;refine ae ?_;by_cases jC:nm=x.name
   ·have als:(nm != x.name)=false:=by simp [jC]
    have alt:(nm==x.name)=true:=by simp [jC]
    replace jC:=aa jC;refine pe (M.sel [0,1,10,2,3,4,5,6,7,8,9] dQ) [none,none,none] [.b true,.b false,.p 0,.p 2,.p 1,.p 0,.p 0,.o (J3.b) 1,.l 1 1,.i (i:Nat),.o nb i,.v (.c (sv nm)),.o (J4.b) 1,.l 2 1,.p 7,.p 0,.u,.u,.u,.u,.p 4,.p 0] [[],[],[],[],[],[],[],[],[1],[],[],[0],[],[2],[],[],[],[],[],[],[],[]] [] ?_ ?_
    ·show ∀i,i<22->_;refine On (On (On (On (On (On (On (On (On (On ?_ eh) (e_ [2] 1)) eh) eB) eB) eB) eB) eB) eh) eh;refine On ?_ (mW [0] (h:=λγ wv K M hK=>abT));exact On (On (On (On (On (On (On (On (On (On (On Oz eB) eh) eB) eB) eh) eh) eB) eh) (e_ [1] 1)) eB) eh
    intro Wg wv M;replace M:Mem _ _ _ _ [_,_,_,_,_,_,_,_,_,_,_]:=M;refine gk ?_;refine pe (M.sel [1,3,4,0,2,5,6,7,8,9,10] dQ) [none,none,none] [.o (J3.b) 0,.l 0 0,.o (J3.b) 2,.l 0 2,.i (i:Nat),.o sb i,.i (k:Nat),.o cb (k*10),.p 0,.i (xc.count),.p 0] [[],[0],[],[0],[],[],[2],[],[],[1],[]] [] ?_ ?_
    ·exact ac3
    intro γ6 wv M;replace M:Mem _ _ _ _ [_,_,_,_,_,_,_,_,_,_,_]:=M;by_cases hkd:x.kind=2
    ·have alj:(x.kind==2)=true:=by simp [hkd]
     have hcq:=hcp.out jC.out hkd;have hmn:((R'.copies - h.copies) != (if xc.count - 1<1 then xc.count - 1 else 1))=false:=by have z1:=hpos;rw[hcq];simp only[bne_eq_false_iff_eq];split<;>split<;>omega
     have hb1:=HC.out.2.2.2.2.2.2;replace hcq:=aa hcq;replace hkd:=aa hkd;refine pe (M.sel [0,3,4,8,1,2,5,6,7,9,10] dQ) [none,none,none,none] [.o (J3.b) 1,.l 0 1,.i (i:Nat),.o nb i,.v (.c (sv nm)),.o (J4.b) 1,.l 2 1,.b true,.p 0,.o (J4.b) 0,.l 2 0,.p 2,.p 0,.p 0,.o (J8.b) 3,.l 3 3,.o (J3.b) 3,.l 0 3,.i (R'.copies - h.copies),.i (xc.count),.i (xc.count - 1),.i (if xc.count - 1<1 then xc.count - 1 else 1),.b false,.p 0] [[],[0],[],[],[1],[],[2],[],[],[],[2],[],[],[],[],[3],[],[0],[],[],[],[],[],[]] [] ?_ ?_
     ·show ∀i,i<24->_;refine On (On ?_ eh) eh;refine On ?_ (mW [] (h:=λγ wv K M hK=>tl));refine On ?_ (mW [] (h:=λγ wv K M hK=>mf));refine On ?_ eB;refine On ?_ (mW [] (h:=λγ wv K M hK=>mf));refine On (On (On (On (On (On (On (On (On (On (On (On (On ?_ eh) (e_ [2] 1)) eh) eB) eh) (e_ [2] 0)) eh) eh) eB) eh) (e_ [3] 3)) eh) (e_ [0] 3);refine On ?_ (mW [1] (h:=λγ wv K M hK=>abT));exact On (On (On (On Oz eh) (e_ [0] 1)) eB) eh
     intro γ7 wv M;replace M:Mem _ _ _ _ [_,_,_,_,_,_,_,_,_,_,_]:=M;refine cf (bd (fA (dV ?_)));refine Rb M [] (dV ?_);exact rH (i+1,((some ⟨cb,0,none⟩)),(cc),((some ⟨nb,0,none⟩)),(cn),((some ⟨sb,0,none⟩)),(cs)) _ _ dU (by(try dsimp only);omega) (by(try dsimp only);omega) (M.sel [4,1,5,0,8,3,2] dQ)
    ·have alj:(x.kind==2)=false:=by simpa using hkd
     clear hkd;refine pe (M.sel [0,3,4,1,2,5,6,7,8,9,10] dQ) [none,none,none] [.o (J3.b) 1,.l 0 1,.i (i:Nat),.o nb i,.v (.c (sv nm)),.o (J4.b) 1,.l 2 1,.b true,.p 0,.o (J4.b) 0,.l 2 0,.b false,.p 0,.p 0,.u,.u,.u,.u,.u,.u,.u,.u,.u,.p 9] [[],[0],[],[],[1],[],[2],[],[],[],[2],[],[],[],[],[],[],[],[],[],[],[],[],[]] [] ?_ ?_
     ·show ∀i,i<24->_;refine On (On (On (On (On (On (On (On (On (On (On (On (On (On (On (On (On (On (On ?_ eh) (e_ [2] 1)) eh) eB) eh) (e_ [2] 0)) eh) eh) eB) eB) eB) eB) eB) eB) eB) eB) eB) eB) eh;refine On ?_ (mW [1] (h:=λγ wv K M hK=>abT));exact On (On (On (On Oz eh) (e_ [0] 1)) eB) eh
     intro γ8 wv M;replace M:Mem _ _ _ _ [_,_,_,_,_,_,_,_,_,_,_]:=M;refine cf (bd (fA (dV ?_)));refine Rb M [] (dV ?_);exact rH (i+1,((some ⟨cb,0,none⟩)),(cc),((some ⟨nb,0,none⟩)),(cn),((some ⟨sb,0,none⟩)),(cs)) _ _ dU (by(try dsimp only);omega) (by(try dsimp only);omega) (M.sel [3,1,4,0,7,8,2] dQ)
   ·have als:(nm != x.name)=true:=by simpa using jC
    have alt:(nm==x.name)=false:=by simpa using jC
    obtain rfl:=UI.out jC;clear jC;refine pe (M.sel [0,1,4,5,8,9,10,2,3,6,7] dQ) [none,none,none,none,none,none,none] [.b true,.b false,.p 0,.p 2,.p 1,.p 0,.p 0,.o (J3.b) 1,.l 1 1,.i (i:Nat),.o nb i,.v (.c (sv nm)),.o (J4.b) 1,.l 6 1,.p 10,.p 0,.la 5,.la 3,.p 2,.p 12,.p 0,.p 0] [[],[],[],[],[],[],[],[],[1],[],[],[0],[],[6],[],[],[5],[3],[4,2],[],[],[]] [] ?_ ?_
    ·show ∀i,i<22->_;refine On (On (On ?_ eh) eh) eh;refine On ?_ (tn [] [] [4,2] (h:=λγ wv R K M hK=>by go_simp;go_at_call 17;exact f_ (v:= .bool true) (adr vw _ _ _ (M.rp 0 rfl) (M.rp 1 rfl) hvv.out (eC hvv.out)) M hK))
     refine On (On (On (On (On (On ?_ eh) (e_ [6] 1)) eh) eB) (lL [5])) (lL [3]);refine On ?_ (mW [0] (h:=λγ wv K M hK=>abT));exact On (On (On (On (On (On (On (On (On (On (On Oz eB) eh) eB) eB) eh) eh) eB) eh) (e_ [1] 1)) eB) eh
    intro γ9 wv M;replace M:Mem _ _ _ _ [_,_,_,_,_,_,_,_,_,_,_]:=M;refine gk ?_;refine pe (M.sel [1,7,8,0,2,3,4,5,6,9,10] dQ) [none,none,none] [.o (J3.b) 0,.l 0 0,.o (J3.b) 2,.l 0 2,.i (i:Nat),.o sb i,.i (k:Nat),.o cb (k*10),.p 0,.i (xc.count),.p 0] [[],[0],[],[0],[],[],[2],[],[],[1],[]] [] ?_ ?_
    ·exact ac3
    intro ajc wv M;replace M:Mem _ _ _ _ [_,_,_,_,_,_,_,_,_,_,_]:=M;skip
    ·skip;refine pe (M.sel [0,3,8,1,2,4,5,6,7,9,10] dQ) [none,none,none] [.o (J3.b) 1,.l 0 1,.i (i:Nat),.o nb i,.v (.c (sv nm)),.o (J4.b) 1,.l 2 1,.b false,.p 0,.u,.u,.u,.p 3,.p 0,.u,.u,.u,.u,.u,.u,.u,.u,.u,.p 9] [[],[0],[],[],[1],[],[2],[],[],[],[],[],[],[],[],[],[],[],[],[],[],[],[],[]] [] ?_ ?_
     ·show ∀i,i<24->_;refine On (On (On (On (On (On (On (On (On (On (On (On (On (On (On (On (On (On (On ?_ eh) (e_ [2] 1)) eh) eB) eB) eB) eB) eh) eB) eB) eB) eB) eB) eB) eB) eB) eB) eB) eh;refine On ?_ (mW [1] (h:=λγ wv K M hK=>abT));exact On (On (On (On Oz eh) (e_ [0] 1)) eB) eh
     intro amg wv M;replace M:Mem _ _ _ _ [_,_,_,_,_,_,_,_,_,_,_]:=M;refine cf (bd (fA (dV ?_)));refine Rb M [] (dV ?_);exact rH (i+1,((some ⟨cb,0,none⟩)),(cc),((some ⟨nb,0,none⟩)),(cn),((some ⟨sb,0,none⟩)),(cs)) _ _ dU (by(try dsimp only);omega) (by(try dsimp only);omega) (M.sel [3,1,4,0,9,10,2] dQ)
  ·rw[hlt];replace hlt:=aa hlt;refine bo (es (es (fT (dV (Ra M [] (aO ?_))))));refine vQ results4 ?_;exact⟨rfl,M.bel⟩
 ·skip;refine Ra M [] ?_;refine ct ?_;refine Ra M [] (aO (fI ?_));refine vQ results4 ?_;exact⟨rfl,M.bel⟩
end Go.Proofs.YtekcpadlmfaihaaGreat
