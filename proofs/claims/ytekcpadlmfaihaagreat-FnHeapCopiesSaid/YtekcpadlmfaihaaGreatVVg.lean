/- Valid vectors: what l4Is and IsVector of the reference return. -/
import Derived.Test.YtekcpadlmfaihaaGreatVVb
namespace Go.Proofs.YtekcpadlmfaihaaGreat
open Go.RowKit Proofs.Tryz
set_option maxHeartbeats 8000000
set_option maxRecDepth 100000
set_option linter.unusedSimpArgs false
set_option linter.unusedVariables false
theorem SC {v:Vec} (h:0<v.items.length) (hk:atomK v.kind=false):v.items.all (wZ v)=false:=nN (aw h) (by rw[wZ,hk];rfl)
theorem Yu {d:Nat} {v:Vec} (h:∀y∈v.parts,∃d',d=d'+1/\okD d' y=true):PR d v=true:=by
 cases d with
 |zero=>
  cases hp:v.parts with
  |nil=>simp [PR,hp]
  |cons a t=>obtain⟨d',h1,_⟩:=h a (by rw[hp];exact aT);omega
 |succ d=>
  refine aV.2 λy hy=>?_;obtain⟨d',h1,h2⟩:=h y hy;obtain rfl:d=d':=dP;exact h2
theorem Vr {d:Nat} {v y:Vec} (hy:y∈v.parts) (h:d=0\/∃d',d=d'+1/\okD d' y=false):PR d v=false:=by
 cases d with
 |zero=>
  cases hp:v.parts with
  |nil=>rw[hp]at hy;simp at hy
  |cons a t=>simp [PR,hp]
 |succ d=>
  rcases h with h|⟨d',h1,h2⟩
  ·omega
  ·obtain rfl:d=d':=dP;exact List.all_eq_false.2 ⟨y,hy,by rw[h2];simp⟩
def isP (d:Nat):Prop:=∀(v:Vec) (cs:List Value) (w:World),rep w w.heap.size v.toD cs->bigV v->
 Calls prog 134 #[av cs,d] w λe w'=>e= .returned (.bool (okD d v))/\Below w.heap.size w w'
theorem QZ (d:Nat) (Us:(d:Int)<=100) (ih:∀d',d=d'+1->isP d'):isP d:=by
 intro v cs w h ga;have MX:=ga.len;have kQ:=wV v;have abm:v.kind≠5->lenV v=v.items.length+v.parts.length:=λh=>by rw[lenV,aH h]
 obtain⟨Ai,ni,ci,Ap,np,cp,An,nn,cn,Ac,nc,cc,Al,nl,cl,rfl,hv⟩:=iy h;have q0:=(Below.refl w.heap.size w).alloc (af _) (.cells (vc v Ai ni ci Ap np cp An nn cn Ac nc cc Al nl cl).toArray 38);have L_:=Blk.new_ w 38 (vc v Ai ni ci Ap np cp An nn cn Ac nc cc Al nl cl).toArray;have hC:P6 v=decide (IZ v.kind v.code v.env ni np nn nc nl):=BS;have hN:IY v=((decide (nn=0)||decide (nn=lenV v))&&zT v.names):=by rw[ab8,hv.na.len]
 have HC:=aa hC;have HN:=aa hN;have Ou:=aa (aih (d:=d) (v:=v));have HSp:=aa (s8 d v);have b1:=hv.itb;have b2:=hv.pab;have b3:=hv.nab;have b4:=hv.cab;have b5:=hv.lab;unfold maxLen at b1 b2 b3 b4 b5;have OQ:=aa hv.it.len;have Ts:=aa b2.2.2;have HL5:=aa hv.la.len;have XD:=MX;rw[hv.it.len,b2.2.2]at abm MX;have HLv:=aa abm;have xo:=aa ih;have b2':np<=9223372036854775807:=dP;clear hC hN b2 abm ih;obtain⟨p2,hp2⟩:∃p:Bool,p= !(CO v&&IY v):=⟨_,rfl⟩;have WZ:=aa hp2;clear hp2;go_enter func134,ntmps134;go_wp2_with fail;refine(lI v _ _ (fM h q0) dP).mono ?_;rintro e w1 ⟨rfl,hb1⟩;have q1:=ij q0 hb1;have TF:=L_.next hb1;have c10:w1.cell? ⟨w.heap.size,0,none⟩=some (.int .i64 v.kind):=TF.cell 0;have c13:w1.cell? ⟨w.heap.size,3,none⟩=some (.slice An nn cn):=TF.cell 3;go_upto_region 2 with fail
 go_cut [49] (λc wx=>c= .bool p2/\Blk wx w.heap.size 38 (vc v Ai ni ci Ap np cp An nn cn Ac nc cc Al nl cl)/\Below w.heap.size w wx)
 case first=>as_aux_lemma=>
  have noA:decide (0<=v.kind/\v.kind<=5)=false->true=p2:=λh=>by rw[WZ.out,CO,aK (by have:=dm h;omega)];rfl
  have NoA:=aa noA;clear noA;go_wp2_with fail;refine(gj _ _ _ _).mono ?_;rintro e w2 ⟨rfl,rfl⟩;cases hk:decide (0<=v.kind/\v.kind<=5) with
  |false=>
   go_wp2_with fail;go_meet;exact⟨cU Value.bool (NoA.out hk),TF,q1⟩
  |true=>
  by_cases h40:lenV v<=40
  case neg=>
   have d40:decide ((40:Int)<(lenV v:Int))=true:=aM dP;have HB:=aa (show true=p2 by rw[WZ.out,CO,aK dP];rfl);clear h40;go_wp2_with fail;go_meet;exact⟨cU Value.bool HB.out,TF,q1⟩
  have d40:decide ((40:Int)<(lenV v:Int))=false:=aK dP;have HA:=aa (show CO v=(mF v.cls 3&&mF v.levels 20) by rw[CO,aM (by have:=cD hk;omega)];rfl);clear hk;by_cases n0:nn=0
  case' pos=>
   have m0:((nn:Int) != 0)=false:=dS;have HPn:=aa (show (decide (nn=0)||decide (nn=lenV v))=true by rw[aM n0];rfl);clear n0
  case' neg=>
   have m0:((nn:Int) != 0)=true:=dS;by_cases hnl:nn=lenV v
   case neg=>
    have m1:((nn:Int) != (lenV v:Int))=true:=dS;have HB:=aa (show true=p2 by rw[WZ.out,HN.out,aK n0,aK hnl];simp);clear hnl n0;go_wp2_with fail;go_meet;exact⟨cU Value.bool HB.out,TF,q1⟩
   have m1:((nn:Int) != (lenV v:Int))=false:=dS;have HPn:=aa (show (decide (nn=0)||decide (nn=lenV v))=true by rw[aM hnl];simp);clear hnl n0
  all_goals
   have HN2:=aa (show IY v=zT v.names by rw[HN.out,HPn.out];rfl);go_wp2_with fail;refine(Nz An nn cn v.names _ ((hv.na.below q1).more q1.size) hv.nao eb).mono ?_;rintro e w2 ⟨rfl,jS⟩;have q2:=ij q1 jS;have U9:=TF.next jS;have c24:w2.cell? ⟨w.heap.size,4,none⟩=some (.slice Ac nc cc):=U9.cell 4;cases hnm:zT v.names
   case false=>
    go_wp2_with fail;go_meet;exact⟨cU Value.bool (by rw[WZ.out,HN2.out,hnm];simp),U9,q2⟩
   go_wp2_with fail;refine(zP Ac nc cc v.cls 3 _ ((hv.ca.below q2).more q2.size) hv.cao b4.1 eb dP).mono ?_;rintro e w3 ⟨rfl,lE⟩;have q3:=ij q2 lE;have tz:=U9.next lE;have c35:w3.cell? ⟨w.heap.size,5,none⟩=some (.slice Al nl cl):=tz.cell 5;cases l1:mF v.cls 3
   case false=>
    go_wp2_with fail;go_meet;exact⟨cU Value.bool (by rw[WZ.out,HA.out,l1];rfl),tz,q3⟩
   go_wp2_with fail;refine(zP Al nl cl v.levels 20 _ ((hv.la.below q3).more q3.size) hv.lao b5.1 eb dP).mono ?_;rintro e w4 ⟨rfl,DB⟩;go_wp2_with fail;go_meet;exact⟨cU Value.bool (by rw[WZ.out,HA.out,l1,HN2.out,hnm];cases mF v.levels 20<;>rfl),tz.next DB,ij q3 DB⟩
 case rest=>as_aux_lemma=>
  clear q1 TF c10 c13 hb1;obtain⟨rfl,Lf,qW⟩:=hcut;obtain⟨W,hW⟩:∃W:World,W=wc:=⟨_,rfl⟩;subst hW;cases p2
  case true=>
   have HB:=aa (show okD d v=false by
    have h2:=WZ.out;cases ha:CO v with
    |false=>exact Ou.out (.inl ha)
    |true=>
     cases hb:IY v with
     |false=>exact Ou.out (.inr (.inl hb))
     |true=>rw[ha,hb]at h2;cases h2)
   go_wp2_with fail;go_ret;exact⟨dZ HB.out.symm,qW⟩
  have HAN:=aa (show okD d v=(P6 v&&v.items.all (wZ v)&&PR d v) by have h2:=WZ.out;rw[HSp.out];cases ha:CO v<;>cases hb:IY v<;>rw[ha,hb]at h2<;>first|(exfalso;simp at h2;done)|simp)
  have hkr:0<=v.kind/\v.kind<=5:=by
   have h2:=WZ.out;cases ha:CO v with
   |false=>rw[ha]at h2;cases h2
   |true=>
    rw[CO,ax,ax]at ha;have:=cD ha.1.1;omega
  have e0:=Lf.cell 0;have e1:=Lf.cell 1;have e2:=Lf.cell 2;have e3:=Lf.cell 3;have e4:=Lf.cell 4;have e5:=Lf.cell 5;have e6:=Lf.cell 6;have e7:=Lf.cell 7;simp only[ah,ag]at e0 e1 e2 e3 e4 e5 e6 e7;obtain⟨p4,hp4⟩:∃p:Bool,p=decide (v.kind≠5/\(v.code≠0\/v.env≠0)\/v.kind≠2/\0<nl\/v.kind≠4/\0<np):=⟨_,rfl⟩;have HP4:=aa hp4;clear hp4;go_upto_region 4 with fail
  go_cut [84] (λc wx=>c= .bool p4/\W=wx)
  case first=>as_aux_lemma=>
   rcases bz nl with aaG|aaG;all_goals rcases bz np with aaI|aaI
   all_goals first|(have agx:decide ((0:Int)<(nl:Int))=false:=aK dP;have eznl:decide (0<nl)=false:=aK dP)|(have agx:decide ((0:Int)<(nl:Int))=true:=aM dP;have eznl:decide (0<nl)=true:=aM dP)
   all_goals first|(have agz:decide ((0:Int)<(np:Int))=false:=aK dP;have eznp:decide (0<np)=false:=aK dP)|(have agz:decide ((0:Int)<(np:Int))=true:=aM dP;have eznp:decide (0<np)=true:=aM dP)
   all_goals have afR:=aa aaG
   all_goals have afT:=aa aaI
   all_goals clear aaG aaI
   all_goals go_wp2_with fail
   all_goals (go_meet;exact⟨cU Value.bool (by have:=afR.out;have:=afT.out;rw[HP4.out];(first|exact(aM dP).symm|exact(aK dP).symm|(rw[bg];simp;omega)|(rw[bg];simp))),rfl⟩)
  case rest=>as_aux_lemma=>
  obtain⟨rfl,rfl⟩:=hcut;cases p4
  case true=>
   have Zt:=cD HP4.out.symm;have HB:=aa (Ou.out (.inr (.inr (.inl qe))));clear Zt;go_wp2_with fail;go_ret;exact⟨dZ HB.out.symm,qW⟩
  have Zt:=dm HP4.out.symm;have HQ4:=aa Zt;by_cases k5:v.kind=5
  ·have t5:(v.kind==5)=true:=by simpa using k5
   have UB:np=0:=dP;obtain⟨p7,hp7⟩:∃p:Bool,p=decide (ni=0/\nn=0/\(-999<=v.code/\v.code<=99999)/\(0<=v.env/\v.env<=99999)):=⟨_,rfl⟩;have HR:=aa (show okD d v=p7 by
    rw[HAN.out,hp7];by_cases hi:ni=0
    ·exact GG
    ·rw[HC.out,aK (show ¬IZ v.kind v.code v.env ni np nn nc nl by unfold IZ;omega),aK dP];rfl)
   have HP7:=aa hp7;clear k5 UB hp7 Zt;go_upto_region 7 with fail
   go_cut [4] (λc wx=>c= .bool p7/\W=wx)
   case first=>as_aux_lemma=>
    rcases bz ni with a1|a1
    case' inl=>
     have f1:((ni:Int)==0)=true:=dS
    case' inr=>
     have f1:((ni:Int)==0)=false:=dS
    all_goals
     have A1:=aa a1;clear a1;rcases bz nn with a2|a2
     case' inl=>
      have f2:((nn:Int)==0)=true:=dS
     case' inr=>
      have f2:((nn:Int)==0)=false:=dS
     all_goals
      have A2:=aa a2;clear a2;go_wp2_with (first|(go_at_call 68;((with_reducible refine(gj _ _ _ _).mono ?_);rintro e w1 ⟨rfl,rfl⟩)));all_goals (go_meet;exact⟨cU Value.bool (by have:=A1.out;have:=A2.out;rw[HP7.out];(first|exact(aM dP).symm|exact(aK dP).symm|(rw[bg];simp;omega)|(rw[bg];simp))),rfl⟩)
   case rest=>as_aux_lemma=>
    obtain⟨rfl,rfl⟩:=hcut;go_wp2_with fail;go_ret;exact⟨dZ HR.out.symm,qW⟩
  have t5:(v.kind==5)=false:=by simpa using k5
  by_cases k0:v.kind=0
  ·have t0:(v.kind==0)=true:=by simpa using k0
   have UB:np=0:=dP;have Ps:lenV v=ni:=by rw[HLv.out k5];omega
   obtain⟨p9,hp9⟩:∃p:Bool,p=decide (ni=0/\nc=0):=⟨_,rfl⟩;have HR:=aa (show okD d v=p9 by
    rw[HAN.out,hp9];by_cases hi:ni=0
    ·exact GG
    ·rw[HC.out,aK (show ¬IZ v.kind v.code v.env ni np nn nc nl by unfold IZ;omega),aK dP];rfl)
   have HP9:=aa hp9;have HL0:=aa Ps;clear k5 k0 UB hp9 Zt Ps;go_upto_region 9 with fail
   go_cut [4] (λc wx=>c= .bool p9/\W=wx)
   case first=>as_aux_lemma=>
    by_cases a1:lenV v=0
    case' pos=>
     have f1:((lenV v:Int)==0)=true:=dS
    case' neg=>
     have f1:((lenV v:Int)==0)=false:=dS
    all_goals
     have A1:=aa a1;clear a1;go_wp2_with fail;all_goals (go_meet;exact⟨cU Value.bool (by have:=A1.out;have:=HL0.out;rw[HP9.out];(first|exact(aM dP).symm|exact(aK dP).symm|(rw[bg];simp;omega)|(rw[bg];simp))),rfl⟩)
   case rest=>as_aux_lemma=>
    obtain⟨rfl,rfl⟩:=hcut;go_wp2_with fail;go_ret;exact⟨dZ HR.out.symm,qW⟩
  have t0:(v.kind==0)=false:=by simpa using k0
  have HK0:=aa k0;have HK5:=aa k5;clear k0 k5 Zt;obtain⟨p10,ad4⟩:∃p:Bool,p=decide (v.kind=4/\0<ni):=⟨_,rfl⟩;have aaw:=aa ad4;clear ad4;go_upto_region 10 with fail
  go_cut [127] (λc wx=>c= .bool p10/\W=wx)
  case first=>as_aux_lemma=>
   rcases bz ni with Dj|Dj;all_goals first|(have T8:decide ((0:Int)<(ni:Int))=false:=aK dP;have ezni:decide (0<ni)=false:=aK dP)|(have T8:decide ((0:Int)<(ni:Int))=true:=aM dP;have ezni:decide (0<ni)=true:=aM dP)
   all_goals have TJ:=aa Dj
   all_goals clear Dj
   all_goals go_wp2_with fail
   all_goals (go_meet;exact⟨cU Value.bool (by have:=TJ.out;rw[aaw.out];(first|exact(aM dP).symm|exact(aK dP).symm|(rw[bg];simp;omega)|(rw[bg];simp))),rfl⟩)
  case rest=>as_aux_lemma=>
  obtain⟨rfl,rfl⟩:=hcut;cases p10
  case true=>
   have Xx:=cD aaw.out.symm;have HB:=aa (Ou.out (.inr (.inr (.inr (.inl (SC (by rw[OQ.out];omega) (aK dP)))))));clear Xx;go_wp2_with fail;go_ret;exact⟨dZ HB.out.symm,qW⟩
  have Xx:=dm aaw.out.symm;have HQ10:=aa Xx;have HCt:=aa (show P6 v=true by rw[HC.out];exact aM (by have:=HQ4.out;have:=HK0.out;have:=HK5.out;unfold IZ;omega));have hat:0<ni->atomK v.kind=true:=λh=>aM (by have:=HK0.out;have:=HK5.out;omega);have HAT:=aa hat;clear Xx hat;go_wp2_with fail;go_loopw [6] (λi wr=>∃k:Nat,k<=ni/\i= .int .i64 k/\(v.items.take k).all (wZ v)=true/\Below W.heap.size W wr) (λi _=>ni - (intOf i).toNat)
  case atStart=>exact⟨0,by omega,rfl,rfl,Below.refl _ _⟩
  case round=>as_aux_lemma=>
   obtain⟨k,hk,rfl,hf,hb⟩:=hrel;have HF:=aa hf;clear hf e0 e1 e2 e3 e4 e5 e6 e7;have qr:=ij qW hb;have kr:=Lf.next hb;have e0:=kr.cell 0;have e1:=kr.cell 1;have e2:=kr.cell 2;have e5:=kr.cell 5;simp only[ah,ag]at e0 e1 e2 e5;have zr:=kr.lt;by_cases hlt:k<ni
   ·obtain⟨b,off,x,rfl,gD,hx,xO,hc1,hc2⟩:=(hv.it.below qr).at3 hlt;have hok:=hv.ito _ (aA hx);have HX:=aa hx;have HBI:=aa (λ(h:wZ v x=false)=>Ou.out (.inr (.inr (.inr (.inl (nN HX.out h))))));have HAt:=aa (HAT.out dP);clear hx;have qx:=qr.alloc qr.size (.cells #[x.num,x.den,sv x.text] 135);go_wp2_with fail;refine(PK v.kind x _ hok).mono ?_;rintro e w5 ⟨rfl,Is⟩;have q5:=ij qx Is;obtain⟨Jx,_⟩:=fY Is;simp only[dT]at Jx;have y51:w.heap.size<wr.heap.size+1:=dP;have y52:¬w.heap.size=wr.heap.size:=dP;have hb8:=ij (Below.alloc hb hb.size _) Is;cases hio:itemOK v.kind x with
    |false=>
     go_wp2_with fail;go_ret;exact⟨dZ (HBI.out (by rw[wZ,SB,hio];simp)).symm,q5⟩
    |true=>
    have af0:=aa (aaP hio);have HG0:=aa (show wZ v x=(decide (nl=0)||decide (x.den=0)||decide (x.den=1/\1<=x.num/\x.num<=(nl:Int))) by rw[wZ,HAt.out,SB,hio,HL5.out,af0.out];rfl);rcases bz nl with n0|n0
    ·have d1:decide ((0:Int)<(nl:Int))=false:=aK dP;have d2:decide (0<nl)=false:=aK dP;have HG:=aa (show wZ v x=true by rw[HG0.out,aM n0];rfl);clear n0;go_wp2_with fail;go_roundw
     case rel=>exact⟨k+1,by omega,by go_num,iY HX.out HF.out HG.out,hb8⟩
     case measure=>simp [intOf];omega
    have d1:decide ((0:Int)<(nl:Int))=true:=aM dP;have d2:decide (0<nl)=true:=aM dP;by_cases Hy:x.den=0
    ·have t1:(x.den != 0)=false:=by simpa using Hy
     have HG:=aa (show wZ v x=true by rw[HG0.out,aM Hy];simp);clear Hy;go_wp2_with fail;go_roundw
     case rel=>exact⟨k+1,by omega,by go_num,iY HX.out HF.out HG.out,hb8⟩
     case measure=>simp [intOf];omega
    have t1:(x.den != 0)=true:=by simpa using Hy
    have HG1:=aa (show wZ v x=decide (x.den=1/\1<=x.num/\x.num<=(nl:Int)) by rw[HG0.out,aK Hy,aK (show ¬nl=0 by omega)];rfl);by_cases Jy:x.den=1
    case neg=>
     have t2:(x.den != 1)=true:=by simpa using Jy
     have HB:=aa (HBI.out (by rw[HG1.out];exact aK dP));clear Jy Hy;go_wp2_with fail;go_ret;exact⟨dZ HB.out.symm,q5⟩
    have t2:(x.den != 1)=false:=by simpa using Jy
    have HG2:=aa (show wZ v x=decide (1<=x.num/\x.num<=(nl:Int)) by rw[HG1.out,dL];omega);clear Jy Hy;go_wp2_with fail;refine(gj _ _ _ _).mono ?_;rintro e w6 ⟨rfl,rfl⟩;cases hin:decide (1<=x.num/\x.num<=(nl:Int)) with
    |true=>
     go_wp2_with fail;go_roundw
     case rel=>exact⟨k+1,by omega,by go_num,iY HX.out HF.out (by rw[HG2.out,hin]),hb8⟩
     case measure=>simp [intOf];omega
    |false=>
     go_wp2_with fail;go_ret;exact⟨dZ (HBI.out (by rw[HG2.out,hin])).symm,q5⟩
   ·have dkn:decide ((k:Int)<(ni:Int))=false:=aK dP;have agv:decide (k<ni)=false:=aK dP;have aau:=aa (show okD d v=PR d v by have h1:=HF.out;rw[aC (by rw[OQ.out];omega)]at h1;rw[HAN.out,HCt.out,h1];rfl)
    obtain⟨W2,hW2⟩:∃W2:World,W2=wr:=⟨_,rfl⟩;subst hW2;clear hlt hk;go_wp2_with fail;go_loopw [8] (λi wr=>∃j:Nat,j<=np/\i= .int .i64 j/\(∀y∈v.parts.take j,∃d',d=d'+1/\okD d' y=true)/\Below W2.heap.size W2 wr) (λi _=>np - (intOf i).toNat)
    case atStart=>exact⟨0,by omega,rfl,by simp,Below.refl _ _⟩
    case round=>as_aux_lemma=>
     obtain⟨j,hj,rfl,hf2,jS⟩:=hrel;have HF2:=aa hf2;clear hf2 e0 e1 e2 e5;have q2:=ij qr jS;have kr2:=kr.next jS;have e2:=kr2.cell 2;simp only[ah,ag]at e2;by_cases hlt:j<np
     ·obtain⟨b,off,x,Ru,SN,RP,Rx,SP,RS,Ct,CE,Hw,L4,JS,L7,Rv,SO,Mz,rfl,gD,hx,fE,hvx,c0,c1,c2,c3,c4,c5,c6,c7⟩:=rz (fF hv.pa q2) hlt;have HM:=aa (aA hx);have HT:=aa (eJ hx);clear hx;rcases bz d with Hy|Hy
      ·have td:((d:Int)==0)=true:=dS;have HB:=aa (show okD d v=false by rw[aau.out];exact Vr HM.out (.inl Hy));clear Hy;go_wp2_with fail;go_ret;exact⟨dZ HB.out.symm,q2⟩
      ·obtain⟨d',hd'⟩:∃d',d=d'+1:=⟨d - 1,by omega⟩;have td:((d:Int)==0)=false:=dS;have hdm:(d:Int) - 1=(d':Int):=dP;have HD':=aa hd';have Jy:1<=(d:Int):=dP;clear hd' Hy;go_wp2_with fail;refine(xo.out d' HD'.out x _ _ (gY fE q2.size) (ga.part HM.out)).mono ?_;rintro e w6 ⟨rfl,Zu⟩;cases hq:okD d' x with
       |false=>
        go_wp2_with fail;go_ret;exact⟨dZ (by rw[aau.out];exact(Vr HM.out (.inr ⟨d',HD'.out,hq⟩)).symm),ij q2 Zu⟩
       |true=>
        go_wp2_with fail;go_roundw
        case rel=>exact⟨j+1,by omega,by go_num,λy hy=>by
         rw[HT.out]at hy;rcases aG.1 hy with hy|hy
         ·exact HF2.out y hy
         ·simp at hy;subst hy;exact⟨d',HD'.out,hq⟩,ij jS Zu⟩
        case measure=>simp [intOf];omega
     ·obtain rfl:j=np:=dP;have HY:=aa (show okD d v=true by rw[aau.out];exact Yu λy hy=>HF2.out y (by rw[aC (by rw[Ts.out];omega)];exact hy))
      go_wp2_with fail;go_ret;exact⟨dZ HY.out.symm,q2⟩
end Go.Proofs.YtekcpadlmfaihaaGreat
