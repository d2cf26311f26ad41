/- The shape of vectors: what shapeValid returns. -/
import Derived.Test.YtekcpadlmfaihaaGreatYA
import Derived.Deep.DeepCutAuto
namespace Go.Proofs.YtekcpadlmfaihaaGreat
open Go.RowKit Proofs.Tryz
set_option maxHeartbeats 8000000
set_option maxRecDepth 100000
set_option linter.unusedSimpArgs false
set_option linter.unusedVariables false
variable {B:Nat} {w:World}
theorem ET (v:Vec) (cs:List Value) (w:World) (h:rep w w.heap.size v.toD cs) (ga:bigV v):
 Calls prog 171 #[av cs] w λe w'=>e= .returned (.bool (h_ v))/\Below w.heap.size w w':=by
 have MX:=ga.len;have kQ:=wV v;obtain⟨Ai,ni,ci,Ap,np,cp,An,nn,cn,Ac,nc,cc,Al,nl,cl,rfl,hv⟩:=iy h;have q0:=(Below.refl w.heap.size w).alloc (af _) (.cells (vc v Ai ni ci Ap np cp An nn cn Ac nc cc Al nl cl).toArray 38);have L_:=Blk.new_ w 38 (vc v Ai ni ci Ap np cp An nn cn Ac nc cc Al nl cl).toArray;have hC:P6 v=decide (IZ v.kind v.code v.env ni np nn nc nl):=BS;have HC:=aa hC;have Ou:=aa (@aim v);have b1:=hv.itb;have b2:=hv.pab;have b3:=hv.nab;have b4:=hv.cab;have b5:=hv.lab;unfold maxLen at b1 b2 b3 b4 b5;have OQ:=aa hv.it.len;have HL3:=aa hv.na.len;have HL5:=aa hv.la.len;have b2':np<=9223372036854775807:=dP;clear hC b2;go_enter func171,ntmps171;go_wp2_with fail;refine(pC v _ _ (fM h q0) dP).mono ?_;rintro e w1 ⟨rfl,hb1⟩;have q1:=ij q0 hb1;have TF:=L_.next hb1;have c10:w1.cell? ⟨w.heap.size,0,none⟩=some (.int .i64 v.kind):=TF.cell 0;have c14:w1.cell? ⟨w.heap.size,4,none⟩=some (.slice Ac nc cc):=TF.cell 4;by_cases k0:0<=v.kind/\v.kind<=5/\lenV v<=40
 case neg=>
  have HB:=aa (Ou.out (.inl (by rw[CO,aK k0];rfl)));have HK:=aa k0;clear k0;go_wp2_with fail;all_goals first|(go_ret;exact⟨dZ HB.out.symm,q1⟩)|(exfalso;apply HK.out;omega)
 obtain⟨k01,k02,k03⟩:=k0;have dk0:decide (v.kind<0)=false:=dS;have dk5:decide (5<v.kind)=false:=dS;have dk4:decide ((40:Int)<(lenV v:Int))=false:=dS;have HA0:=aa (show CO v=(mF v.cls 3&&mF v.levels 20) by rw[CO,aM ⟨k01,k02,k03⟩];rfl);go_wp2_with fail;refine(uI Ac nc cc v.cls 3 _ ((hv.ca.below q1).more q1.size) hv.cao b4.1 eb dP).mono ?_;rintro e w2 ⟨rfl,jS⟩;have q2:=ij q1 jS;have U9:=TF.next jS;have c25:w2.cell? ⟨w.heap.size,5,none⟩=some (.slice Al nl cl):=U9.cell 5;cases l1:mF v.cls 3 with
 |false=>
  go_wp2_with fail;go_ret;exact⟨dZ (Ou.out (.inl (by rw[HA0.out,l1];rfl))).symm,q2⟩
 |true=>
 go_wp2_with fail;refine(uI Al nl cl v.levels 20 _ ((hv.la.below q2).more q2.size) hv.lao b5.1 eb dP).mono ?_;rintro e w3 ⟨rfl,lE⟩;have q3:=ij q2 lE;have tz:=U9.next lE;have c33:w3.cell? ⟨w.heap.size,3,none⟩=some (.slice An nn cn):=tz.cell 3;cases l2:mF v.levels 20 with
 |false=>
  go_wp2_with fail;go_ret;exact⟨dZ (Ou.out (.inl (by rw[HA0.out,l1,l2];rfl))).symm,q3⟩
 |true=>
 have HA:=aa (show CO v=true by rw[HA0.out,l1,l2];rfl);clear l1 l2 c10 c14 c25 hb1 jS TF U9 q1 q2;have hN2:IY v=((decide (nn=0)||(decide (nn=lenV v)&& !lR v.names))&&v.names.all (λs=>decide (s.length<=60))):=by rw[IY,HL3.out]
 have HN2:=aa hN2;clear hN2;go_upto_region 4 with fail
 go_cut [49] (λc wx=>c= .bool (!(decide (nn=0)||(decide (nn=lenV v)&& !lR v.names)))/\Blk wx w.heap.size 38 (vc v Ai ni ci Ap np cp An nn cn Ac nc cc Al nl cl)/\Below w.heap.size w wx)
 case first=>as_aux_lemma=>
  by_cases n0:nn=0
  ·have d0:decide ((0:Int)<(nn:Int))=false:=dS;have d1:decide (0<nn)=false:=dS;have HB:=aa (show false= !(decide (nn=0)||(decide (nn=lenV v)&& !lR v.names)) by rw[aM n0];rfl);clear n0;go_wp2_with fail;go_meet;exact⟨cU Value.bool HB.out,tz,q3⟩
  have d0:decide ((0:Int)<(nn:Int))=true:=dS;by_cases hnl:nn=lenV v
  ·have d1:((nn:Int) != (lenV v:Int))=false:=dS;have HB:=aa (show lR v.names= !(decide (nn=0)||(decide (nn=lenV v)&& !lR v.names)) by rw[aK n0,aM hnl];simp);clear hnl;go_wp2_with fail;refine(za An nn cn v.names _ ((hv.na.below q3).more q3.size) eb).mono ?_;rintro e w4 ⟨rfl,DB⟩;go_wp2_with fail;go_meet;exact⟨cU Value.bool HB.out,tz.next DB,ij q3 DB⟩
  ·have d1:((nn:Int) != (lenV v:Int))=true:=dS;have HB:=aa (show true= !(decide (nn=0)||(decide (nn=lenV v)&& !lR v.names)) by rw[aK n0,aK hnl];rfl);clear hnl;go_wp2_with fail;go_meet;exact⟨cU Value.bool HB.out,tz,q3⟩
 case rest=>as_aux_lemma=>
  clear tz q3 c33 lE;obtain⟨rfl,Lf,qW⟩:=hcut;obtain⟨W,hW⟩:∃W:World,W=wc:=⟨_,rfl⟩;subst hW;cases hnm:(decide (nn=0)||(decide (nn=lenV v)&& !lR v.names)) with
  |false=>
   go_wp2_with fail;go_ret;exact⟨dZ (Ou.out (.inr (.inl (by rw[HN2.out,hnm];rfl)))).symm,qW⟩
  |true=>
  have Ws:=aa (show IY v=v.names.all (λs=>decide (s.length<=60)) by rw[HN2.out,hnm];rfl);clear hnm;have e0:=Lf.cell 0;have e1:=Lf.cell 1;have e2:=Lf.cell 2;have e3:=Lf.cell 3;have e4:=Lf.cell 4;have e5:=Lf.cell 5;have e6:=Lf.cell 6;have e7:=Lf.cell 7;simp only[ah,ag]at e0 e1 e2 e3 e4 e5 e6 e7;go_wp2_with fail;go_loop [53] (λi=>∃k:Nat,k<=nn/\i= .int .i64 k/\(v.names.take k).all (λs=>decide (s.length<=60))=true) (λi=>nn - (intOf i).toNat)
  case atStart=>exact⟨0,by omega,rfl,by simp⟩
  case round=>as_aux_lemma=>
   obtain⟨k,hk,rfl,hf⟩:=hrel;have HF:=aa hf;clear hf;by_cases hlt:k<nn
   ·obtain⟨b,off,x,rfl,gD,hx,xO⟩:=(hv.na.below qW).atS hlt;have X_:x.length<=9223372036854775807:=hv.nao _ (aA hx);have HX:=aa hx;clear hx;by_cases h60:(60:Int)<(x.length:Int)
    ·have HB:=aa (Ou.out (.inr (.inl (by rw[Ws.out];exact nN HX.out (aK dP)))));go_wp2_with fail;go_ret;exact⟨dZ HB.out.symm,qW⟩
    ·go_wp2_with fail;go_round
     case rel=>exact⟨k+1,by omega,by go_num,iY HX.out HF.out (aM dP)⟩
     case measure=>simp [intOf];omega
   ·have WA:k=nn:=dP;have HN:=aa (show IY v=true by rw[Ws.out];have:=HF.out;rwa [aC (by rw[HL3.out];omega)]at this);have dkn:decide ((k:Int)<(nn:Int))=false:=dS;have agv:decide (k<nn)=false:=dS;clear Ws HF HN2 hlt hk WA;obtain⟨p12,ad5⟩:∃p:Bool,p=decide (0<nl/\v.kind≠2\/0<np/\v.kind≠4):=⟨_,rfl⟩;have aax:=aa ad5;clear ad5;go_upto_region 12 with fail
    go_cut [80] (λc wx=>c= .bool p12/\W=wx)
    case first=>as_aux_lemma=>
     go_wp2_with fail;all_goals (go_meet;exact⟨cU Value.bool (by rw[aax.out];(first|exact(aM dP).symm|exact(aK dP).symm|(rw[bg];simp;omega)|(rw[bg];simp))),rfl⟩)
    case rest=>as_aux_lemma=>
    obtain⟨rfl,rfl⟩:=hcut;cases p12
    case true=>
     have Xy:=cD aax.out.symm;have HB:=aa (Ou.out (.inr (.inr (.inl qe))));clear Xy;go_wp2_with fail;go_ret;exact⟨dZ HB.out.symm,qW⟩
    have Xy:=dm aax.out.symm;have af_:=aa Xy;clear Xy;obtain⟨p14,ad6⟩:∃p:Bool,p=decide (v.kind≠5/\(v.code≠0\/v.env≠0)):=⟨_,rfl⟩;have aay:=aa ad6;clear ad6;go_upto_region 14 with fail
    go_cut [93] (λc wx=>c= .bool p14/\W=wx)
    case first=>as_aux_lemma=>
     go_wp2_with fail;all_goals (go_meet;exact⟨cU Value.bool (by rw[aay.out];(first|exact(aM dP).symm|exact(aK dP).symm|(rw[bg];simp;omega)|(rw[bg];simp))),rfl⟩)
    case rest=>as_aux_lemma=>
    obtain⟨rfl,rfl⟩:=hcut;cases p14
    case true=>
     have Xz:=cD aay.out.symm;have HB:=aa (Ou.out (.inr (.inr (.inl qe))));clear Xz;go_wp2_with fail;go_ret;exact⟨dZ HB.out.symm,qW⟩
    have Xz:=dm aay.out.symm;have aga:=aa Xz;clear Xz;obtain⟨p16,ad7⟩:∃p:Bool,p=decide (v.kind=5/\(0<ni\/0<nn\/v.code< -999\/99999<v.code\/v.env<0\/99999<v.env)):=⟨_,rfl⟩;have aaz:=aa ad7;clear ad7;go_upto_region 16 with fail
    go_cut [128] (λc wx=>c= .bool p16/\W=wx)
    case first=>as_aux_lemma=>
     rcases bz ni with Dj|Dj;all_goals rcases bz nn with aaH|aaH
     all_goals first|(have T8:decide ((0:Int)<(ni:Int))=false:=aK dP;have ezni:decide (0<ni)=false:=aK dP)|(have T8:decide ((0:Int)<(ni:Int))=true:=aM dP;have ezni:decide (0<ni)=true:=aM dP)
     all_goals first|(have agy:decide ((0:Int)<(nn:Int))=false:=aK dP;have eznn:decide (0<nn)=false:=aK dP)|(have agy:decide ((0:Int)<(nn:Int))=true:=aM dP;have eznn:decide (0<nn)=true:=aM dP)
     all_goals have TJ:=aa Dj
     all_goals have afS:=aa aaH
     all_goals clear Dj aaH
     all_goals go_wp2_with fail
     all_goals (go_meet;exact⟨cU Value.bool (by have:=TJ.out;have:=afS.out;rw[aaz.out];(first|exact(aM dP).symm|exact(aK dP).symm|(rw[bg];simp;omega)|(rw[bg];simp))),rfl⟩)
    case rest=>as_aux_lemma=>
    obtain⟨rfl,rfl⟩:=hcut;cases p16
    case true=>
     have XA:=cD aaz.out.symm;have HB:=aa (Ou.out (.inr (.inr (.inl qe))));clear XA;go_wp2_with fail;go_ret;exact⟨dZ HB.out.symm,qW⟩
    have XA:=dm aaz.out.symm;have agb:=aa XA;clear XA;obtain⟨p18,ad8⟩:∃p:Bool,p=decide (v.kind=0/\(0<ni\/0<nc)):=⟨_,rfl⟩;have aaA:=aa ad8;clear ad8;go_upto_region 18 with fail
    go_cut [143] (λc wx=>c= .bool p18/\W=wx)
    case first=>as_aux_lemma=>
     rcases bz ni with Dj|Dj;all_goals first|(have T8:decide ((0:Int)<(ni:Int))=false:=aK dP;have ezni:decide (0<ni)=false:=aK dP)|(have T8:decide ((0:Int)<(ni:Int))=true:=aM dP;have ezni:decide (0<ni)=true:=aM dP)
     all_goals have TJ:=aa Dj
     all_goals clear Dj
     all_goals go_wp2_with fail
     all_goals (go_meet;exact⟨cU Value.bool (by have:=TJ.out;rw[aaA.out];(first|exact(aM dP).symm|exact(aK dP).symm|(rw[bg];simp;omega)|(rw[bg];simp))),rfl⟩)
    case rest=>as_aux_lemma=>
    obtain⟨rfl,rfl⟩:=hcut;cases p18
    case true=>
     have aa6:=cD aaA.out.symm;have HB:=aa (Ou.out (.inr (.inr (.inl qe))));clear aa6;go_wp2_with fail;go_ret;exact⟨dZ HB.out.symm,qW⟩
    have aa6:=dm aaA.out.symm;have HCt:=aa (show P6 v=true by rw[HC.out];exact aM (by have:=af_.out;have:=aga.out;have:=agb.out;unfold IZ;omega));clear aa6;go_wp2_with fail;go_loopw [147] (λi wr=>∃k:Nat,k<=ni/\i= .int .i64 k/\(v.items.take k).all (wZ v)=true/\Below W.heap.size W wr) (λi _=>ni - (intOf i).toNat)
    case atStart=>exact⟨0,by omega,rfl,rfl,Below.refl _ _⟩
    case round=>as_aux_lemma=>
     obtain⟨k,hk,rfl,hf,hb⟩:=hrel;have HF:=aa hf;clear hf e0 e1 e2 e3 e4 e5 e6 e7;have qr:=ij qW hb;have kr:=Lf.next hb;have e0:=kr.cell 0;have e1:=kr.cell 1;have e2:=kr.cell 2;have e3:=kr.cell 3;have e4:=kr.cell 4;have e5:=kr.cell 5;have e6:=kr.cell 6;have e7:=kr.cell 7;simp only[ah,ag]at e0 e1 e2 e3 e4 e5 e6 e7;have zr:=kr.lt;by_cases hlt:k<ni
     ·obtain⟨b,off,x,rfl,gD,hx,xO,hc1,hc2⟩:=(hv.it.below qr).at3 hlt;have jV:=hv.ito _ (aA hx);have HX:=aa hx;have HBI:=aa (λ(h:wZ v x=false)=>Ou.out (.inr (.inr (.inr (nN HX.out h)))));clear hx;have qx:=qr.alloc qr.size (.cells #[x.num,x.den,sv x.text] 135);go_wp2_with fail;refine(oY v _ _ (fb h qx (by simp only[dT];have:=qr.size;omega))).mono ?_;rintro e w5 ⟨rfl,Is⟩;have q5:=ij qx Is;obtain⟨Jx,_⟩:=fY Is;simp only[dT]at Jx;have z5:=Is.size;simp only[dT]at z5;have y51:w.heap.size<wr.heap.size+1:=dP;have y52:¬w.heap.size=wr.heap.size:=dP;cases hat:atomK v.kind with
      |false=>
       go_wp2_with fail;go_ret;exact⟨dZ (HBI.out (by rw[wZ,hat];rfl)).symm,q5⟩
      |true=>
      go_wp2_with fail;refine(Iz v.kind x _ jV).mono ?_;rintro e w6 ⟨rfl,Zu⟩;have q6:=ij q5 Zu;obtain⟨Wx,_⟩:=fY Zu;have z6:=Zu.size;have y61:w.heap.size<w5.heap.size:=dP;have y62:wr.heap.size<w5.heap.size:=dP;cases hio:itemOK v.kind x with
      |false=>
       go_wp2_with fail;go_ret;exact⟨dZ (HBI.out (by rw[wZ,hat,SB,hio];rfl)).symm,q6⟩
      |true=>
      rcases bz nl with n0|n0
      ·have d1:decide ((0:Int)<(nl:Int))=false:=aK dP;have d2:decide (0<nl)=false:=aK dP;have HG:=aa (show wZ v x=true by rw[wZ,hat,SB,hio,HL5.out,aM n0];rfl);clear n0;go_wp2_with fail;go_roundw
       case rel=>exact⟨k+1,by omega,by go_num,iY HX.out HF.out HG.out,ij (ij (Below.alloc hb hb.size _) Is) Zu⟩
       case measure=>simp [intOf];omega
      ·have d1:decide ((0:Int)<(nl:Int))=true:=aM dP;have d2:decide (0<nl)=true:=aM dP;go_wp2_with fail;refine(kJ x _).mono ?_;rintro e w7 ⟨rfl,hb7⟩;have q7:=ij q6 hb7;obtain⟨Wy,_⟩:=fY hb7;have y71:w.heap.size<w6.heap.size:=dP;have y72:wr.heap.size<w6.heap.size:=dP;have hb8:=ij (ij (ij (Below.alloc hb hb.size _) Is) Zu) hb7;cases hmi:eI x with
       |true=>
        have HG:=aa (show wZ v x=true by rw[wZ,hat,SB,hio,hmi];simp);go_wp2_with fail;go_roundw
        case rel=>exact⟨k+1,by omega,by go_num,iY HX.out HF.out HG.out,hb8⟩
        case measure=>simp [intOf];omega
       |false=>
        have HG:=aa (show wZ v x=decide (x.den=1/\1<=x.num/\x.num<=(nl:Int)) by rw[wZ,hat,SB,hio,hmi,HL5.out,aK (show ¬nl=0 by omega)];rfl);by_cases hin:x.den=1/\1<=x.num/\x.num<=(nl:Int)
        ·have HT:=aa (show wZ v x=true by rw[HG.out];exact aM hin);have t1:(x.den != 1)=false:=by simpa using hin.1
         have t2:decide (x.num<1)=false:=aK dP;have t3:decide ((nl:Int)<x.num)=false:=aK dP;clear hin;go_wp2_with fail;go_roundw
         case rel=>exact⟨k+1,by omega,by go_num,iY HX.out HF.out HT.out,hb8⟩
         case measure=>simp [intOf];omega
        ·have HT:=aa (HBI.out (by rw[HG.out];exact aK hin));have HIn:=aa hin;clear hin;go_wp2_with fail;all_goals first|(go_ret;exact⟨dZ HT.out.symm,q7⟩)|(exfalso;apply HIn.out;omega)
     ·obtain rfl:k=ni:=dP;have HR:=aa (show h_ v=true by have h1:=HF.out;rw[aC (by rw[OQ.out];omega)]at h1;rw[h_,HA.out,HN.out,HCt.out,h1];rfl)
      go_wp2_with fail;go_ret;exact⟨dZ HR.out.symm,qr⟩
theorem EA:∀(v:Vec) (cs:List Value) (w:World),rep w w.heap.size v.toD cs->bigV v->
 Calls prog 132 #[av cs] w λe w'=>e= .returned (.bool (mJ v))/\Below w.heap.size w w':=iH λv ih=>by
 intro cs w h ga;have Wr:=aa (xW v);obtain⟨Ai,ni,ci,Ap,np,cp,An,nn,cn,Ac,nc,cc,Al,nl,cl,rfl,hv⟩:=iy h;have q0:=(Below.refl w.heap.size w).alloc (af _) (.cells (vc v Ai ni ci Ap np cp An nn cn Ac nc cc Al nl cl).toArray 38);have L_:=Blk.new_ w 38 (vc v Ai ni ci Ap np cp An nn cn Ac nc cc Al nl cl).toArray;have mD:=hv.pab;unfold maxLen at mD;have Mn:=aa mD.2.2;have OA:np<=9223372036854775807:=dP;have xo:=aa ih;clear ih mD;go_enter func132,ntmps132;go_wp2_with fail;refine(ET v _ _ (fM h q0) ga).mono ?_;rintro e w1 ⟨rfl,hb1⟩;have q1:=ij q0 hb1;have c2:w1.cell? ⟨w.heap.size,2,none⟩=some (.slice Ap np cp):=(L_.next hb1).cell 2;cases hsh:h_ v with
 |false=>
  go_wp2_with fail;go_ret;exact⟨dZ (by rw[Wr.out,hsh];rfl),q1⟩
 |true=>
 go_wp2_with fail;go_loopw [11] (λi wr=>∃k:Nat,k<=np/\i= .int .i64 k/\(v.parts.take k).all mJ=true/\Below w.heap.size w wr) (λi _=>np - (intOf i).toNat)
 case atStart=>exact⟨0,by omega,rfl,rfl,q1⟩
 case round=>
  obtain⟨k,hk,rfl,hf,hb⟩:=hrel;have HF:=aa hf;clear hf;by_cases hlt:k<np
  ·obtain⟨b,off,x,Ru,SN,RP,Rx,SP,RS,Ct,CE,Hw,L4,JS,L7,Rv,SO,Mz,rfl,gD,hx,fE,hvx,c0,c1,c2,c3,c4,c5,c6,c7⟩:=rz (fF hv.pa hb) hlt;have HX:=aa hx;have HM:=aa (aA hx);clear hx;have q2:=hb.alloc hb.size (.cells (vc x Ru SN RP Rx SP RS Ct CE Hw L4 JS L7 Rv SO Mz).toArray 38);go_wp2_with fail;refine(xo.out x HM.out _ _ (fb fE (Below.alloc (Below.refl _ _) hb.size _) sx) (ga.part HM.out)).mono ?_;rintro e w2 ⟨rfl,jS⟩;cases hq:mJ x with
   |false=>
    go_wp2_with fail;go_ret;exact⟨dZ (by rw[Wr.out,nN HX.out hq];simp),ij q2 jS⟩
   |true=>
    go_wp2_with fail;go_roundw
    case rel=>exact⟨k+1,by omega,by go_num,iY HX.out HF.out hq,ij q2 jS⟩
    case measure=>simp [intOf];omega
  ·obtain rfl:k=np:=dP;go_wp2_with fail;go_ret;exact⟨dZ (by have:=HF.out;rw[aC lk]at this;rw[Wr.out,this,hsh];rfl),hb⟩
theorem ff (v:Vec) (cs:List Value) (w:World) (h:rep w w.heap.size v.toD cs) (ga:bigV v):
 Calls prog 64 #[av cs] w λe w'=>e= .returned (.bool (isVec v))/\Below w.heap.size w w':=by
 have hcb:=ga.cells;obtain⟨Ai,ni,ci,Ap,np,cp,An,nn,cn,Ac,nc,cc,Al,nl,cl,rfl,hv⟩:=iy h;have q0:=(Below.refl w.heap.size w).alloc (af _) (.cells (vc v Ai ni ci Ap np cp An nn cn Ac nc cc Al nl cl).toArray 38);have L_:=Blk.new_ w 38 (vc v Ai ni ci Ap np cp An nn cn Ac nc cc Al nl cl).toArray;have HI:=aa (show isVec v=(decide (mQ 4 v<=3)&&mJ v&&decide (jF v<=200)) by rw[isVec,abX]);go_enter func64,ntmps64;go_wp2_with fail;refine(Vn 4 dP v _ _ (fM h q0)).mono ?_;rintro e w1 ⟨rfl,hb1⟩;have q1:=ij q0 hb1;obtain⟨hc1,_⟩:=fY hb1;simp only[dT]at hc1;by_cases hn:mQ 4 v<=3
 case neg=>
  have hd:decide ((mQ 4 v:Int)<=3)=false:=aK dP;have HB:=aa (show isVec v=false by rw[HI.out,aK hn];rfl);clear hn;go_wp2_with fail;go_ret;exact⟨dZ HB.out.symm,q1⟩
 have hd:decide ((mQ 4 v:Int)<=3)=true:=aM dP;have HI2:=aa (show isVec v=(mJ v&&decide (jF v<=200)) by rw[HI.out,aM hn];rfl);clear hn;go_wp2_with fail;refine(EA v _ _ (fM (fM h q0) hb1) ga).mono ?_;rintro e w2 ⟨rfl,jS⟩;have q2:=ij q1 jS;obtain⟨hc2,_⟩:=fY jS;have y1:w.heap.size<w1.heap.size:=by have:=hb1.size;simp only[dT]at this;omega
 cases hp:mJ v with
 |false=>
  go_wp2_with fail;go_ret;exact⟨dZ (by rw[HI2.out,hp];rfl),q2⟩
 |true=>
 go_wp2_with fail;refine(RN v _ _ (fM (fM (fM h q0) hb1) jS) ga).mono ?_;rintro e w3 ⟨rfl,lE⟩;have HR:=aa (show isVec v=decide (jF v<=200) by rw[HI2.out,hp];rfl);go_wp2_with fail;go_ret;exact⟨dZ (by rw[HR.out,dL];omega),ij q2 lE⟩
theorem SC {v:Vec} (h:0<v.items.length) (hk:atomK v.kind=false):v.items.all (wZ v)=false:=nN (aw h) (by rw[wZ,hk];rfl)
theorem Yu {d:Nat} {v:Vec} (h:∀y∈v.parts,∃d',d=d'+1/\okD d' y=true):PR d v=true:=by
 cases d with
 |zero=>
  cases hp:v.parts with
  |nil=>simp [PR,hp]
  |cons a t=>obtain⟨d',h1,_⟩:=h a (by rw[hp];exact aT);omega
 |succ d=>
  refine aV.2 λy hy=>?_;obtain⟨d',h1,h2⟩:=h y hy;obtain rfl:d=d':=dP;exact h2
theorem Vr {d:Nat} {v y:Vec} (hy:y∈v.parts) (h:d=0\/∃d',d=d'+1/\okD d' y=false):PR d v=false:=by
 cases d with
 |zero=>
  cases hp:v.parts with
  |nil=>rw[hp]at hy;simp at hy
  |cons a t=>simp [PR,hp]
 |succ d=>
  rcases h with h|⟨d',h1,h2⟩
  ·omega
  ·obtain rfl:d=d':=dP;exact List.all_eq_false.2 ⟨y,hy,by rw[h2];simp⟩
def isP (d:Nat):Prop:=∀(v:Vec) (cs:List Value) (w:World),rep w w.heap.size v.toD cs->bigV v->
 Calls prog 134 #[av cs,d] w λe w'=>e= .returned (.bool (okD d v))/\Below w.heap.size w w'
theorem QZ (d:Nat) (Us:(d:Int)<=100) (ih:∀d',d=d'+1->isP d'):isP d:=by
 intro v cs w h ga;have MX:=ga.len;have kQ:=wV v;have abm:v.kind≠5->lenV v=v.items.length+v.parts.length:=λh=>by rw[lenV,aH h]
 obtain⟨Ai,ni,ci,Ap,np,cp,An,nn,cn,Ac,nc,cc,Al,nl,cl,rfl,hv⟩:=iy h;have q0:=(Below.refl w.heap.size w).alloc (af _) (.cells (vc v Ai ni ci Ap np cp An nn cn Ac nc cc Al nl cl).toArray 38);have L_:=Blk.new_ w 38 (vc v Ai ni ci Ap np cp An nn cn Ac nc cc Al nl cl).toArray;have hC:P6 v=decide (IZ v.kind v.code v.env ni np nn nc nl):=BS;have hN:IY v=((decide (nn=0)||decide (nn=lenV v))&&zT v.names):=by rw[ab8,hv.na.len]
 have HC:=aa hC;have HN:=aa hN;have Ou:=aa (aih (d:=d) (v:=v));have HSp:=aa (s8 d v);have b1:=hv.itb;have b2:=hv.pab;have b3:=hv.nab;have b4:=hv.cab;have b5:=hv.lab;unfold maxLen at b1 b2 b3 b4 b5;have OQ:=aa hv.it.len;have Ts:=aa b2.2.2;have HL5:=aa hv.la.len;have XD:=MX;rw[hv.it.len,b2.2.2]at abm MX;have HLv:=aa abm;have xo:=aa ih;have b2':np<=9223372036854775807:=dP;clear hC hN b2 abm ih;obtain⟨p2,hp2⟩:∃p:Bool,p= !(CO v&&IY v):=⟨_,rfl⟩;have WZ:=aa hp2;clear hp2;go_enter func134,ntmps134;go_wp2_with fail;refine(lI v _ _ (fM h q0) dP).mono ?_;rintro e w1 ⟨rfl,hb1⟩;have q1:=ij q0 hb1;have TF:=L_.next hb1;have c10:w1.cell? ⟨w.heap.size,0,none⟩=some (.int .i64 v.kind):=TF.cell 0;have c13:w1.cell? ⟨w.heap.size,3,none⟩=some (.slice An nn cn):=TF.cell 3;go_upto_region 2 with fail
 go_cut [49] (λc wx=>c= .bool p2/\Blk wx w.heap.size 38 (vc v Ai ni ci Ap np cp An nn cn Ac nc cc Al nl cl)/\Below w.heap.size w wx)
 case first=>as_aux_lemma=>
  have noA:decide (0<=v.kind/\v.kind<=5)=false->true=p2:=λh=>by rw[WZ.out,CO,aK (by have:=dm h;omega)];rfl
  have NoA:=aa noA;clear noA;go_wp2_with fail;refine(gj _ _ _ _).mono ?_;rintro e w2 ⟨rfl,rfl⟩;cases hk:decide (0<=v.kind/\v.kind<=5) with
  |false=>
   go_wp2_with fail;go_meet;exact⟨cU Value.bool (NoA.out hk),TF,q1⟩
  |true=>
  by_cases h40:lenV v<=40
  case neg=>
   have d40:decide ((40:Int)<(lenV v:Int))=true:=aM dP;have HB:=aa (show true=p2 by rw[WZ.out,CO,aK dP];rfl);clear h40;go_wp2_with fail;go_meet;exact⟨cU Value.bool HB.out,TF,q1⟩
  have d40:decide ((40:Int)<(lenV v:Int))=false:=aK dP;have HA:=aa (show CO v=(mF v.cls 3&&mF v.levels 20) by rw[CO,aM (by have:=cD hk;omega)];rfl);clear hk;by_cases n0:nn=0
  case' pos=>
   have m0:((nn:Int) != 0)=false:=dS;have HPn:=aa (show (decide (nn=0)||decide (nn=lenV v))=true by rw[aM n0];rfl);clear n0
  case' neg=>
   have m0:((nn:Int) != 0)=true:=dS;by_cases hnl:nn=lenV v
   case neg=>
    have m1:((nn:Int) != (lenV v:Int))=true:=dS;have HB:=aa (show true=p2 by rw[WZ.out,HN.out,aK n0,aK hnl];simp);clear hnl n0;go_wp2_with fail;go_meet;exact⟨cU Value.bool HB.out,TF,q1⟩
   have m1:((nn:Int) != (lenV v:Int))=false:=dS;have HPn:=aa (show (decide (nn=0)||decide (nn=lenV v))=true by rw[aM hnl];simp);clear hnl n0
  all_goals
   have HN2:=aa (show IY v=zT v.names by rw[HN.out,HPn.out];rfl);go_wp2_with fail;refine(Nz An nn cn v.names _ ((hv.na.below q1).more q1.size) hv.nao eb).mono ?_;rintro e w2 ⟨rfl,jS⟩;have q2:=ij q1 jS;have U9:=TF.next jS;have c24:w2.cell? ⟨w.heap.size,4,none⟩=some (.slice Ac nc cc):=U9.cell 4;cases hnm:zT v.names
   case false=>
    go_wp2_with fail;go_meet;exact⟨cU Value.bool (by rw[WZ.out,HN2.out,hnm];simp),U9,q2⟩
   go_wp2_with fail;refine(zP Ac nc cc v.cls 3 _ ((hv.ca.below q2).more q2.size) hv.cao b4.1 eb dP).mono ?_;rintro e w3 ⟨rfl,lE⟩;have q3:=ij q2 lE;have tz:=U9.next lE;have c35:w3.cell? ⟨w.heap.size,5,none⟩=some (.slice Al nl cl):=tz.cell 5;cases l1:mF v.cls 3
   case false=>
    go_wp2_with fail;go_meet;exact⟨cU Value.bool (by rw[WZ.out,HA.out,l1];rfl),tz,q3⟩
   go_wp2_with fail;refine(zP Al nl cl v.levels 20 _ ((hv.la.below q3).more q3.size) hv.lao b5.1 eb dP).mono ?_;rintro e w4 ⟨rfl,DB⟩;go_wp2_with fail;go_meet;exact⟨cU Value.bool (by rw[WZ.out,HA.out,l1,HN2.out,hnm];cases mF v.levels 20<;>rfl),tz.next DB,ij q3 DB⟩
 case rest=>as_aux_lemma=>
  clear q1 TF c10 c13 hb1;obtain⟨rfl,Lf,qW⟩:=hcut;obtain⟨W,hW⟩:∃W:World,W=wc:=⟨_,rfl⟩;subst hW;cases p2
  case true=>
   have HB:=aa (show okD d v=false by
    have h2:=WZ.out;cases ha:CO v with
    |false=>exact Ou.out (.inl ha)
    |true=>
     cases hb:IY v with
     |false=>exact Ou.out (.inr (.inl hb))
     |true=>rw[ha,hb]at h2;cases h2)
   go_wp2_with fail;go_ret;exact⟨dZ HB.out.symm,qW⟩
  have HAN:=aa (show okD d v=(P6 v&&v.items.all (wZ v)&&PR d v) by have h2:=WZ.out;rw[HSp.out];cases ha:CO v<;>cases hb:IY v<;>rw[ha,hb]at h2<;>first|(exfalso;simp at h2;done)|simp)
  have hkr:0<=v.kind/\v.kind<=5:=by
   have h2:=WZ.out;cases ha:CO v with
   |false=>rw[ha]at h2;cases h2
   |true=>
    rw[CO,ax,ax]at ha;have:=cD ha.1.1;omega
  have e0:=Lf.cell 0;have e1:=Lf.cell 1;have e2:=Lf.cell 2;have e3:=Lf.cell 3;have e4:=Lf.cell 4;have e5:=Lf.cell 5;have e6:=Lf.cell 6;have e7:=Lf.cell 7;simp only[ah,ag]at e0 e1 e2 e3 e4 e5 e6 e7;obtain⟨p4,hp4⟩:∃p:Bool,p=decide (v.kind≠5/\(v.code≠0\/v.env≠0)\/v.kind≠2/\0<nl\/v.kind≠4/\0<np):=⟨_,rfl⟩;have HP4:=aa hp4;clear hp4;go_upto_region 4 with fail
  go_cut [84] (λc wx=>c= .bool p4/\W=wx)
  case first=>as_aux_lemma=>
   rcases bz nl with aaG|aaG;all_goals rcases bz np with aaI|aaI
   all_goals first|(have agx:decide ((0:Int)<(nl:Int))=false:=aK dP;have eznl:decide (0<nl)=false:=aK dP)|(have agx:decide ((0:Int)<(nl:Int))=true:=aM dP;have eznl:decide (0<nl)=true:=aM dP)
   all_goals first|(have agz:decide ((0:Int)<(np:Int))=false:=aK dP;have eznp:decide (0<np)=false:=aK dP)|(have agz:decide ((0:Int)<(np:Int))=true:=aM dP;have eznp:decide (0<np)=true:=aM dP)
   all_goals have afR:=aa aaG
   all_goals have afT:=aa aaI
   all_goals clear aaG aaI
   all_goals go_wp2_with fail
   all_goals (go_meet;exact⟨cU Value.bool (by have:=afR.out;have:=afT.out;rw[HP4.out];(first|exact(aM dP).symm|exact(aK dP).symm|(rw[bg];simp;omega)|(rw[bg];simp))),rfl⟩)
  case rest=>as_aux_lemma=>
  obtain⟨rfl,rfl⟩:=hcut;cases p4
  case true=>
   have Zt:=cD HP4.out.symm;have HB:=aa (Ou.out (.inr (.inr (.inl qe))));clear Zt;go_wp2_with fail;go_ret;exact⟨dZ HB.out.symm,qW⟩
  have Zt:=dm HP4.out.symm;have HQ4:=aa Zt;by_cases k5:v.kind=5
  ·have t5:(v.kind==5)=true:=by simpa using k5
   have UB:np=0:=dP;obtain⟨p7,hp7⟩:∃p:Bool,p=decide (ni=0/\nn=0/\(-999<=v.code/\v.code<=99999)/\(0<=v.env/\v.env<=99999)):=⟨_,rfl⟩;have HR:=aa (show okD d v=p7 by
    rw[HAN.out,hp7];by_cases hi:ni=0
    ·exact GG
    ·rw[HC.out,aK (show ¬IZ v.kind v.code v.env ni np nn nc nl by unfold IZ;omega),aK dP];rfl)
   have HP7:=aa hp7;clear k5 UB hp7 Zt;go_upto_region 7 with fail
   go_cut [4] (λc wx=>c= .bool p7/\W=wx)
   case first=>as_aux_lemma=>
    rcases bz ni with a1|a1
    case' inl=>
     have f1:((ni:Int)==0)=true:=dS
    case' inr=>
     have f1:((ni:Int)==0)=false:=dS
    all_goals
     have A1:=aa a1;clear a1;rcases bz nn with a2|a2
     case' inl=>
      have f2:((nn:Int)==0)=true:=dS
     case' inr=>
      have f2:((nn:Int)==0)=false:=dS
     all_goals
      have A2:=aa a2;clear a2;go_wp2_with (first|(go_at_call 68;((with_reducible refine(gj _ _ _ _).mono ?_);rintro e w1 ⟨rfl,rfl⟩)));all_goals (go_meet;exact⟨cU Value.bool (by have:=A1.out;have:=A2.out;rw[HP7.out];(first|exact(aM dP).symm|exact(aK dP).symm|(rw[bg];simp;omega)|(rw[bg];simp))),rfl⟩)
   case rest=>as_aux_lemma=>
    obtain⟨rfl,rfl⟩:=hcut;go_wp2_with fail;go_ret;exact⟨dZ HR.out.symm,qW⟩
  have t5:(v.kind==5)=false:=by simpa using k5
  by_cases k0:v.kind=0
  ·have t0:(v.kind==0)=true:=by simpa using k0
   have UB:np=0:=dP;have Ps:lenV v=ni:=by rw[HLv.out k5];omega
   obtain⟨p9,hp9⟩:∃p:Bool,p=decide (ni=0/\nc=0):=⟨_,rfl⟩;have HR:=aa (show okD d v=p9 by
    rw[HAN.out,hp9];by_cases hi:ni=0
    ·exact GG
    ·rw[HC.out,aK (show ¬IZ v.kind v.code v.env ni np nn nc nl by unfold IZ;omega),aK dP];rfl)
   have HP9:=aa hp9;have HL0:=aa Ps;clear k5 k0 UB hp9 Zt Ps;go_upto_region 9 with fail
   go_cut [4] (λc wx=>c= .bool p9/\W=wx)
   case first=>as_aux_lemma=>
    by_cases a1:lenV v=0
    case' pos=>
     have f1:((lenV v:Int)==0)=true:=dS
    case' neg=>
     have f1:((lenV v:Int)==0)=false:=dS
    all_goals
     have A1:=aa a1;clear a1;go_wp2_with fail;all_goals (go_meet;exact⟨cU Value.bool (by have:=A1.out;have:=HL0.out;rw[HP9.out];(first|exact(aM dP).symm|exact(aK dP).symm|(rw[bg];simp;omega)|(rw[bg];simp))),rfl⟩)
   case rest=>as_aux_lemma=>
    obtain⟨rfl,rfl⟩:=hcut;go_wp2_with fail;go_ret;exact⟨dZ HR.out.symm,qW⟩
  have t0:(v.kind==0)=false:=by simpa using k0
  have HK0:=aa k0;have HK5:=aa k5;clear k0 k5 Zt;obtain⟨p10,ad4⟩:∃p:Bool,p=decide (v.kind=4/\0<ni):=⟨_,rfl⟩;have aaw:=aa ad4;clear ad4;go_upto_region 10 with fail
  go_cut [127] (λc wx=>c= .bool p10/\W=wx)
  case first=>as_aux_lemma=>
   rcases bz ni with Dj|Dj;all_goals first|(have T8:decide ((0:Int)<(ni:Int))=false:=aK dP;have ezni:decide (0<ni)=false:=aK dP)|(have T8:decide ((0:Int)<(ni:Int))=true:=aM dP;have ezni:decide (0<ni)=true:=aM dP)
   all_goals have TJ:=aa Dj
   all_goals clear Dj
   all_goals go_wp2_with fail
   all_goals (go_meet;exact⟨cU Value.bool (by have:=TJ.out;rw[aaw.out];(first|exact(aM dP).symm|exact(aK dP).symm|(rw[bg];simp;omega)|(rw[bg];simp))),rfl⟩)
  case rest=>as_aux_lemma=>
  obtain⟨rfl,rfl⟩:=hcut;cases p10
  case true=>
   have Xx:=cD aaw.out.symm;have HB:=aa (Ou.out (.inr (.inr (.inr (.inl (SC (by rw[OQ.out];omega) (aK dP)))))));clear Xx;go_wp2_with fail;go_ret;exact⟨dZ HB.out.symm,qW⟩
  have Xx:=dm aaw.out.symm;have HQ10:=aa Xx;have HCt:=aa (show P6 v=true by rw[HC.out];exact aM (by have:=HQ4.out;have:=HK0.out;have:=HK5.out;unfold IZ;omega));have hat:0<ni->atomK v.kind=true:=λh=>aM (by have:=HK0.out;have:=HK5.out;omega);have HAT:=aa hat;clear Xx hat;go_wp2_with fail;go_loopw [6] (λi wr=>∃k:Nat,k<=ni/\i= .int .i64 k/\(v.items.take k).all (wZ v)=true/\Below W.heap.size W wr) (λi _=>ni - (intOf i).toNat)
  case atStart=>exact⟨0,by omega,rfl,rfl,Below.refl _ _⟩
  case round=>as_aux_lemma=>
   obtain⟨k,hk,rfl,hf,hb⟩:=hrel;have HF:=aa hf;clear hf e0 e1 e2 e3 e4 e5 e6 e7;have qr:=ij qW hb;have kr:=Lf.next hb;have e0:=kr.cell 0;have e1:=kr.cell 1;have e2:=kr.cell 2;have e5:=kr.cell 5;simp only[ah,ag]at e0 e1 e2 e5;have zr:=kr.lt;by_cases hlt:k<ni
   ·obtain⟨b,off,x,rfl,gD,hx,xO,hc1,hc2⟩:=(hv.it.below qr).at3 hlt;have jV:=hv.ito _ (aA hx);have HX:=aa hx;have HBI:=aa (λ(h:wZ v x=false)=>Ou.out (.inr (.inr (.inr (.inl (nN HX.out h))))));have HAt:=aa (HAT.out dP);clear hx;have qx:=qr.alloc qr.size (.cells #[x.num,x.den,sv x.text] 135);go_wp2_with fail;refine(PK v.kind x _ jV).mono ?_;rintro e w5 ⟨rfl,Is⟩;have q5:=ij qx Is;obtain⟨Jx,_⟩:=fY Is;simp only[dT]at Jx;have y51:w.heap.size<wr.heap.size+1:=dP;have y52:¬w.heap.size=wr.heap.size:=dP;have hb8:=ij (Below.alloc hb hb.size _) Is;cases hio:itemOK v.kind x with
    |false=>
     go_wp2_with fail;go_ret;exact⟨dZ (HBI.out (by rw[wZ,SB,hio];simp)).symm,q5⟩
    |true=>
    have af0:=aa (aaP hio);have HG0:=aa (show wZ v x=(decide (nl=0)||decide (x.den=0)||decide (x.den=1/\1<=x.num/\x.num<=(nl:Int))) by rw[wZ,HAt.out,SB,hio,HL5.out,af0.out];rfl);rcases bz nl with n0|n0
    ·have d1:decide ((0:Int)<(nl:Int))=false:=aK dP;have d2:decide (0<nl)=false:=aK dP;have HG:=aa (show wZ v x=true by rw[HG0.out,aM n0];rfl);clear n0;go_wp2_with fail;go_roundw
     case rel=>exact⟨k+1,by omega,by go_num,iY HX.out HF.out HG.out,hb8⟩
     case measure=>simp [intOf];omega
    have d1:decide ((0:Int)<(nl:Int))=true:=aM dP;have d2:decide (0<nl)=true:=aM dP;by_cases Hy:x.den=0
    ·have t1:(x.den != 0)=false:=by simpa using Hy
     have HG:=aa (show wZ v x=true by rw[HG0.out,aM Hy];simp);clear Hy;go_wp2_with fail;go_roundw
     case rel=>exact⟨k+1,by omega,by go_num,iY HX.out HF.out HG.out,hb8⟩
     case measure=>simp [intOf];omega
    have t1:(x.den != 0)=true:=by simpa using Hy
    have HG1:=aa (show wZ v x=decide (x.den=1/\1<=x.num/\x.num<=(nl:Int)) by rw[HG0.out,aK Hy,aK (show ¬nl=0 by omega)];rfl);by_cases Jy:x.den=1
    case neg=>
     have t2:(x.den != 1)=true:=by simpa using Jy
     have HB:=aa (HBI.out (by rw[HG1.out];exact aK dP));clear Jy Hy;go_wp2_with fail;go_ret;exact⟨dZ HB.out.symm,q5⟩
    have t2:(x.den != 1)=false:=by simpa using Jy
    have HG2:=aa (show wZ v x=decide (1<=x.num/\x.num<=(nl:Int)) by rw[HG1.out,dL];omega);clear Jy Hy;go_wp2_with fail;refine(gj _ _ _ _).mono ?_;rintro e w6 ⟨rfl,rfl⟩;cases hin:decide (1<=x.num/\x.num<=(nl:Int)) with
    |true=>
     go_wp2_with fail;go_roundw
     case rel=>exact⟨k+1,by omega,by go_num,iY HX.out HF.out (by rw[HG2.out,hin]),hb8⟩
     case measure=>simp [intOf];omega
    |false=>
     go_wp2_with fail;go_ret;exact⟨dZ (HBI.out (by rw[HG2.out,hin])).symm,q5⟩
   ·have dkn:decide ((k:Int)<(ni:Int))=false:=aK dP;have agv:decide (k<ni)=false:=aK dP;have aau:=aa (show okD d v=PR d v by have h1:=HF.out;rw[aC (by rw[OQ.out];omega)]at h1;rw[HAN.out,HCt.out,h1];rfl)
    obtain⟨W2,hW2⟩:∃W2:World,W2=wr:=⟨_,rfl⟩;subst hW2;clear hlt hk;go_wp2_with fail;go_loopw [8] (λi wr=>∃j:Nat,j<=np/\i= .int .i64 j/\(∀y∈v.parts.take j,∃d',d=d'+1/\okD d' y=true)/\Below W2.heap.size W2 wr) (λi _=>np - (intOf i).toNat)
    case atStart=>exact⟨0,by omega,rfl,by simp,Below.refl _ _⟩
    case round=>as_aux_lemma=>
     obtain⟨j,hj,rfl,hf2,jS⟩:=hrel;have HF2:=aa hf2;clear hf2 e0 e1 e2 e5;have q2:=ij qr jS;have kr2:=kr.next jS;have e2:=kr2.cell 2;simp only[ah,ag]at e2;by_cases hlt:j<np
     ·obtain⟨b,off,x,Ru,SN,RP,Rx,SP,RS,Ct,CE,Hw,L4,JS,L7,Rv,SO,Mz,rfl,gD,hx,fE,hvx,c0,c1,c2,c3,c4,c5,c6,c7⟩:=rz (fF hv.pa q2) hlt;have HM:=aa (aA hx);have HT:=aa (eJ hx);clear hx;rcases bz d with Hy|Hy
      ·have td:((d:Int)==0)=true:=dS;have HB:=aa (show okD d v=false by rw[aau.out];exact Vr HM.out (.inl Hy));clear Hy;go_wp2_with fail;go_ret;exact⟨dZ HB.out.symm,q2⟩
      ·obtain⟨d',hd'⟩:∃d',d=d'+1:=⟨d - 1,by omega⟩;have td:((d:Int)==0)=false:=dS;have hdm:(d:Int) - 1=(d':Int):=dP;have HD':=aa hd';have Jy:1<=(d:Int):=dP;clear hd' Hy;go_wp2_with fail;refine(xo.out d' HD'.out x _ _ (gY fE q2.size) (ga.part HM.out)).mono ?_;rintro e w6 ⟨rfl,Zu⟩;cases hq:okD d' x with
       |false=>
        go_wp2_with fail;go_ret;exact⟨dZ (by rw[aau.out];exact(Vr HM.out (.inr ⟨d',HD'.out,hq⟩)).symm),ij q2 Zu⟩
       |true=>
        go_wp2_with fail;go_roundw
        case rel=>exact⟨j+1,by omega,by go_num,λy hy=>by
         rw[HT.out]at hy;rcases aG.1 hy with hy|hy
         ·exact HF2.out y hy
         ·simp at hy;subst hy;exact⟨d',HD'.out,hq⟩,ij jS Zu⟩
        case measure=>simp [intOf];omega
     ·obtain rfl:j=np:=dP;have HY:=aa (show okD d v=true by rw[aau.out];exact Yu λy hy=>HF2.out y (by rw[aC (by rw[Ts.out];omega)];exact hy))
      go_wp2_with fail;go_ret;exact⟨dZ HY.out.symm,q2⟩
structure Hop where
 kind:Int
 name:Str
 frm:Str
 at_:Int
 value:Vec
def Hop.toD (x:Hop):D:= .st [.i .i64 x.kind,.s x.name,.s x.frm,.i .i64 x.at_,x.value.toD]
theorem qQ (x:Hop):x.toD= .st [.i .i64 x.kind,.s x.name,.s x.frm,.i .i64 x.at_,x.value.toD]:=qf
theorem lQ {x:Hop} {cs:List Value} (h:rep w B x.toD cs):∃(eL:Option Addr) (eS:Nat) (eO:Nat) (eN:Option Addr) (eU:Nat) (eQ:Nat) (eM:Option Addr) (eT:Nat) (eP:Nat) (fh:Option Addr) (fo:Nat) (fk:Nat) (eD:Option Addr) (eF:Nat) (eE:Nat),cs=[.int .i64 x.kind,sv x.name,sv x.frm,.int .i64 x.at_,.int .i64 x.value.kind,.slice eL eS eO,.slice eN eU eQ,.slice eM eT eP,.slice fh fo fk,.slice eD eF eE,.int .i64 x.value.code,.int .i64 x.value.env]/\(Lit.int .i64 x.kind).wf=true/\x.name.length<=maxLen/\x.frm.length<=maxLen/\(Lit.int .i64 x.at_).wf=true/\rep w B x.value.toD [x.value.kind,.slice eL eS eO,.slice eN eU eQ,.slice eM eT eP,.slice fh fo fk,.slice eD eF eE,x.value.code,x.value.env]:=by rw[qQ,rep]at h;obtain⟨css,rfl,h⟩:=h;rw[gb]at h;obtain⟨c0,css,rfl,k0,h⟩:=h;rw[gb]at h;obtain⟨c1,css,rfl,k1,h⟩:=h;rw[gb]at h;obtain⟨c2,css,rfl,k2,h⟩:=h;rw[gb]at h;obtain⟨c3,css,rfl,k3,h⟩:=h;rw[gb]at h;obtain⟨c4,css,rfl,k4,h⟩:=h;rw[gb]at h;subst h;rw[rep]at k0;obtain⟨rfl,k0⟩:=k0;rw[rep]at k1;obtain⟨rfl,k1⟩:=k1;rw[rep]at k2;obtain⟨rfl,k2⟩:=k2;rw[rep]at k3;obtain⟨rfl,k3⟩:=k3;obtain⟨Fw,FE,FB,FA,FH,FD,Fy,FG,FC,LW,LY,LX,Cq,Cs,Cr,rfl,_⟩:=fw k4;exact⟨Fw,FE,FB,FA,FH,FD,Fy,FG,FC,LW,LY,LX,Cq,Cs,Cr,rfl,k0,k1,k2,k3,k4⟩
theorem OS {x:Hop} {eL:Option Addr} {eS:Nat} {eO:Nat} {eN:Option Addr} {eU:Nat} {eQ:Nat} {eM:Option Addr} {eT:Nat} {eP:Nat} {fh:Option Addr} {fo:Nat} {fk:Nat} {eD:Option Addr} {eF:Nat} {eE:Nat} {Fvalue:List Nat} (tu:(Lit.int .i64 x.kind).wf=true) (Kj:x.name.length<=maxLen) (Tp:x.frm.length<=maxLen) (V9:(Lit.int .i64 x.at_).wf=true) (me:own prog w (x.value.toD) 38 Fvalue [x.value.kind,.slice eL eS eO,.slice eN eU eQ,.slice eM eT eP,.slice fh fo fk,.slice eD eF eE,x.value.code,x.value.env]):own prog w x.toD 40 (Fvalue++[]) [x.kind,sv x.name,sv x.frm,x.at_,x.value.kind,.slice eL eS eO,.slice eN eU eQ,.slice eM eT eP,.slice fh fo fk,.slice eD eF eE,x.value.code,x.value.env]:=by rw[qQ,own];exact⟨_,[[.int .i64 x.kind],[sv x.name],[sv x.frm],[.int .i64 x.at_],[.int .i64 x.value.kind,.slice eL eS eO,.slice eN eU eQ,.slice eM eT eP,.slice fh fo fk,.slice eD eF eE,.int .i64 x.value.code,.int .i64 x.value.env]],underlying40,rfl,(fg (F1:=[]) (by rw[own];exact⟨rfl,rfl,tu⟩) (fg (F1:=[]) (by rw[own];exact⟨rfl,rfl,Kj⟩) (fg (F1:=[]) (by rw[own];exact⟨rfl,rfl,Tp⟩) (fg (F1:=[]) (by rw[own];exact⟨rfl,rfl,V9⟩) (fg me p_)))))⟩
theorem P2 {l:List Hop} {A:Option Addr} {n c k:Nat} (h:rep w B (.sl (l.map Hop.toD)) [.slice A n c]) (hk:k<n):
 ∃(b off:Nat) (x:Hop) (eL:Option Addr) (eS:Nat) (eO:Nat) (eN:Option Addr) (eU:Nat) (eQ:Nat) (eM:Option Addr) (eT:Nat) (eP:Nat) (fh:Option Addr) (fo:Nat) (fk:Nat) (eD:Option Addr) (eF:Nat) (eE:Nat),A=some ⟨b,off,none⟩/\b<B/\l[k]?=some x/\rep w B x.toD [x.kind,sv x.name,sv x.frm,x.at_,x.value.kind,.slice eL eS eO,.slice eN eU eQ,.slice eM eT eP,.slice fh fo fk,.slice eD eF eE,x.value.code,x.value.env]/\w.cell? ⟨b,off+k*12,none⟩=some (.int .i64 x.kind)/\w.cell? ⟨b,off+k*12+1,none⟩=some (sv x.name)/\w.cell? ⟨b,off+k*12+2,none⟩=some (sv x.frm)/\w.cell? ⟨b,off+k*12+3,none⟩=some (.int .i64 x.at_)/\w.cell? ⟨b,off+k*12+4,none⟩=some (.int .i64 x.value.kind)/\w.cell? ⟨b,off+k*12+5,none⟩=some (.slice eL eS eO)/\w.cell? ⟨b,off+k*12+6,none⟩=some (.slice eN eU eQ)/\w.cell? ⟨b,off+k*12+7,none⟩=some (.slice eM eT eP)/\w.cell? ⟨b,off+k*12+8,none⟩=some (.slice fh fo fk)/\w.cell? ⟨b,off+k*12+9,none⟩=some (.slice eD eF eE)/\w.cell? ⟨b,off+k*12+10,none⟩=some (.int .i64 x.value.code)/\w.cell? ⟨b,off+k*12+11,none⟩=some (.int .i64 x.value.env):=by
 obtain⟨b,off,x,cs,e,hb,hx,hr,hc⟩:=Rp h hk;obtain⟨eL,eS,eO,eN,eU,eQ,eM,eT,eP,fh,fo,fk,eD,eF,eE,rfl,_⟩:=lQ hr;exact⟨b,off,x,eL,eS,eO,eN,eU,eQ,eM,eT,eP,fh,fo,fk,eD,eF,eE,e,hb,hx,hr,hc 0 _ rfl,hc 1 _ rfl,hc 2 _ rfl,hc 3 _ rfl,hc 4 _ rfl,hc 5 _ rfl,hc 6 _ rfl,hc 7 _ rfl,hc 8 _ rfl,hc 9 _ rfl,hc 10 _ rfl,hc 11 _ rfl⟩
theorem wG (x:Hop):szD x.toD=x.name.length+(x.frm.length+(szD (x.value.toD))):=by rw[qQ];simp only[szD,gv];omega
def C9 (x:Hop):Prop:=∀(cs:List Value) (n:Int) (w:World),rep w w.heap.size x.toD cs->0<=n->n<=1048576->Calls prog 27 #[.agg cs.toArray,n] w λe w'=>e= .returned (.int .i64 (jQ (szD x.toD) n))/\Below w.heap.size w w'
theorem Oa (x:Hop):C9 x:=by
 intro cs n w h h0 h1;have kD:=wG x;obtain⟨eL,eS,eO,eN,eU,eQ,eM,eT,eP,fh,fo,fk,eD,eF,eE,rfl,tu,Kj,Tp,V9,me⟩:=lQ h;have q0:=(Below.refl w.heap.size w).alloc (af _) (.cells #[x.kind,sv x.name,sv x.frm,x.at_,x.value.kind,.slice eL eS eO,.slice eN eU eQ,.slice eM eT eP,.slice fh fo fk,.slice eD eF eE,x.value.code,x.value.env] 65);have Cd:=aa kD;clear kD;have akD:x.name.length<=9223372036854775807:=Kj;have ufrm:x.frm.length<=9223372036854775807:=Tp;go_enter func27,ntmps27;by_cases g0:n<(x.name.length:Int)
 ·have d0:decide (n - (x.name.length:Int)<0)=true:=dS;go_wp2_with fail;go_ret;exact⟨eZ mo,q0⟩
 have d0:decide (n - (x.name.length:Int)<0)=false:=dS;by_cases g1:(n - x.name.length)<(x.frm.length:Int)
 ·have d1:decide ((n - x.name.length) - (x.frm.length:Int)<0)=true:=dS;go_wp2_with fail;go_ret;exact⟨eZ mo,q0⟩
 have d1:decide ((n - x.name.length) - (x.frm.length:Int)<0)=false:=dS;go_wp2_with fail;refine(Au x.value _ _ _ (fb me q0 q0.size) dP dP).mono ?_;rintro e w1 ⟨rfl,b1⟩;obtain⟨hc1,_⟩:=fY b1;have z1:=b1.size
 (try simp only[dT]at hc1 z1)
 have y1:w.heap.size<w1.heap.size:=dP;have q1:=ij q0 b1;by_cases g2:jQ (szD (x.value.toD)) ((n - x.name.length) - x.frm.length)<0
 ·have Xs:((n - x.name.length) - x.frm.length)<((szD (x.value.toD):Nat):Int):=n9;go_wp2_with fail;go_ret;exact⟨eZ mo,q1⟩
 have Xs:((szD (x.value.toD):Nat):Int)<=((n - x.name.length) - x.frm.length):=n9;have e2:jQ (szD (x.value.toD)) ((n - x.name.length) - x.frm.length)=((n - x.name.length) - x.frm.length) - ((szD (x.value.toD):Nat):Int):=l8 Xs;obtain⟨m2,DK⟩:∃m:Int,m=jQ (szD (x.value.toD)) ((n - x.name.length) - x.frm.length):=⟨_,rfl⟩;rw[<-DK]at g2 e2 ⊢;have E2:=aa e2;have M2:=aa DK;have le2:0<=m2/\m2<=((n - x.name.length) - x.frm.length):=dP;clear e2 DK;skip;go_wp2_with fail;go_ret;exact⟨eZ (by rw[Cd.out,jQ,aN (by have:=E2.out;omega)]<;>(have:=E2.out;omega)),q1⟩
theorem aaC (l:List Hop) (ih:∀x∈l,C9 x) (A:Option Addr) (len cap:Nat) (n:Int) (w:World) (h:rep w w.heap.size (.sl (l.map Hop.toD)) [.slice A len cap]) (h0:0<=n) (h1:n<=1048576):
 Calls prog 18 #[.slice A len cap,n] w λe w'=>e= .returned (.int .i64 (jQ (szD (.sl (l.map Hop.toD))) n))/\Below w.heap.size w w':=by
 obtain⟨kO,hlc,sT⟩:=ef h;unfold maxLen at sT;rw[au]at kO;rw[szD,au,kO];by_cases hn:n<len
 ·clear kO;go_enter func18,ntmps18;go_wp2_with fail;go_ret;exact⟨eZ (by rw[Eg dP]),Below.refl _ _⟩
 ·have hd:decide (n - (len:Int)<0)=false:=dS;have HL:=aa kO;have HI:=aa ih;clear kO ih;go_enter func18,ntmps18;go_wp2_with fail;go_loopw [1,5] (λm i wr=>∃k:Nat,k<=len/\i= .int .i64 k/\m= .int .i64 (n - len - gv ((l.take k).map Hop.toD))/\(len+gv ((l.take k).map Hop.toD):Int)<=n/\Below w.heap.size w wr) (λ_ i _=>len - (intOf i).toNat)
  case atStart=>exact⟨0,by omega,rfl,by simp [gv],by simp [gv];omega,Below.refl _ _⟩
  case round=>
   obtain⟨k,hk,rfl,rfl,hle,hb⟩:=hrel;by_cases hlt:k<len
   ·obtain⟨b,off,x,eL,eS,eO,eN,eU,eQ,eM,eT,eP,fh,fo,fk,eD,eF,eE,rfl,gD,hx,fE,xO,hc1,hc2,hc3,hc4,Jx,Wx,Wy,hc8,hc9,aa4,aa5⟩:=P2 (fF h hb) hlt;have HT:=aa (Be (f:=Hop.toD) hx);have HU:=aa (LK (f:=Hop.toD) l (k+1));have HM:=aa (aA hx);clear hx;obtain⟨q,hq⟩:∃q:Nat,q=gv ((l.take k).map Hop.toD):=⟨_,rfl⟩;rw[<-hq]at hle ⊢;have HQ:=aa hq;clear hq;go_wp2_with fail;refine(HI.out x HM.out _ _ _ (gY fE hb.size) dP dP).mono ?_;rintro e w1 ⟨rfl,hb1⟩;have ZA:(len+q:Int)+szD x.toD<=n->jQ (szD x.toD) (n - len - q)=n - len - ((q+szD x.toD:Nat):Int):=λh=>by rw[l8 dP];omega
    have Y_:=aa ZA;clear ZA;by_cases WD:(len+q:Int)+szD x.toD<=n
    ·have It:decide (jQ (szD x.toD) (n - len - q)<0)=false:=by rw[Y_.out WD];simp;omega
     go_wp2_with fail;go_roundw
     case rel=>exact⟨k+1,by omega,by go_num,by rw[Y_.out WD,HT.out,<-HQ.out],by rw[HT.out,<-HQ.out];omega,ij hb hb1⟩
     case measure=>simp [intOf];omega
    ·exact yw
   ·exact yx
theorem At (x:Hop):C9 x:=Oa x
theorem aam (l:List Hop) (A:Option Addr) (len cap:Nat) (n:Int) (w:World) (h:rep w w.heap.size (.sl (l.map Hop.toD)) [.slice A len cap]) (h0:0<=n) (h1:n<=1048576):
 Calls prog 18 #[.slice A len cap,n] w λe w'=>e= .returned (.int .i64 (jQ (szD (.sl (l.map Hop.toD))) n))/\Below w.heap.size w w':=aaC l (λx _=>At x) A len cap n w h h0 h1
def C_ (x:Hop):Prop:=∀(cs:List Value) (w:World),rep w w.heap.size x.toD cs->szD x.toD<=1048576->Calls prog 29 #[.agg cs.toArray] w (gM x.toD 40 w)
theorem Oh (x:Hop):C_ x:=by
 intro cs w h hz;have kD:=wG x;rw[kD]at hz;clear kD;obtain⟨eL,eS,eO,eN,eU,eQ,eM,eT,eP,fh,fo,fk,eD,eF,eE,rfl,tu,Kj,Tp,V9,me⟩:=lQ h;go_enter func29,ntmps29;go_wp2_with fail;refine(Ay x.value _ _ (fb me km fC) dP).mono ?_;rintro e w1 ⟨k1,G1,rfl,o1,AP,b1⟩;obtain⟨qY,rd,q_,q9,rg,rb,qZ,rf,ra,tN,tP,tO,qs,qu,qt,rfl,_⟩:=fw (eW _ _ _ _ o1);obtain⟨hc1,hf1⟩:=fY b1;have z1:=b1.size;simp only[dT,dX]at hc1 hf1 z1 AP;have q1:Below w.heap.size w w1:=Below.trans km (b1.mono fC);have Wc:w.heap.size<w1.heap.size:=dP;have Wd:w.heap.size+1<w1.heap.size:=dP;have y1c:w.heap.size+1+1<w1.heap.size:=dP;go_wp2_with fail;skip;refine bM (v:= .agg #[x.kind,sv x.name,sv x.frm,x.at_,x.value.kind,.slice qY rd q_,.slice q9 rg rb,.slice qZ rf ra,.slice tN tP tO,.slice qs qu qt,x.value.code,x.value.env]) (by simp [results,results29,go_sem,hc1,Wc,Wd,y1c]) rfl ⟨_,G1++[],rfl,?_,?_,?_⟩
 ·refine OS tu Kj Tp V9 ?_
  ·repeat'(first|with_reducible exact o1|refine lG ?_ ?_ _|(exact AP.notin jh))
 ·have k0:Fresh w1.heap.size []:=Fresh.nil;have j1:=Fresh.app AP (jT _ _ _ _ o1) k0 dP;exact j1.mono dP
 ·exact mh
theorem aaY:(prog.info? 40).map (λi=>(i.zero,i.size,i.bytes))=some (some (.agg #[.int .i64 0,sv [],sv [],.int .i64 0,.int .i64 0,.slice none 0 0,.slice none 0 0,.slice none 0 0,.slice none 0 0,.slice none 0 0,.int .i64 0,.int .i64 0]),12,192):=dU
theorem aaK (l:List Hop) (ih:∀x∈l,C_ x) (A:Option Addr) (len cap:Nat) (w:World) (h:rep w w.heap.size (.sl (l.map Hop.toD)) [.slice A len cap]) (hz:szD (.sl (l.map Hop.toD))<=1048576):
 Calls prog 19 #[.slice A len cap] w (oK (l.map Hop.toD) 31 w):=by
 obtain⟨kO,hlc,sT⟩:=ef h;rw[au]at kO;rw[szD,au,kO]at hz;obtain⟨i0,DI,rJ,tW,hz2⟩:=cZ aaY;have xx:=λW=>iw (P:=prog) 31 40 i0 _ underlying31 DI rJ .i64 .i64 len len (af _) jj dP W;rw[tW]at xx;have HL:=aa kO;have HI:=aa ih;clear kO ih;go_enter func19,ntmps19;go_wp2_with fail;clear xx;go_loopw [4] (λi wr=>∃(k:Nat) (fB:List (Row 12)) (G:List Nat),k<=len/\i= .int .i64 k/\fB.length=k/\Fil wr w.heap.size 40 (len*12) (k*12) (fB.flatMap Row.v)/\iv prog wr ((l.take k).map Hop.toD) 40 G (fB.map Row.v)/\Fresh (w.heap.size+1) G/\Below w.heap.size w wr) (λi _=>len - (intOf i).toNat)
 case atStart=>exact⟨0,[],[],by omega,rfl,rfl,by simpa using Fil.start w 40 (madeCells #[.int .i64 0,sv [],sv [],.int .i64 0,.int .i64 0,.slice none 0 0,.slice none 0 0,.slice none 0 0,.slice none 0 0,.slice none 0 0,.int .i64 0,.int .i64 0] (len*12)) (len*12) (size_madeCells _ _),by rw[cL,bL,iv];exact⟨rfl,rfl⟩,Fresh.nil,(Below.refl _ _).alloc (af _) _⟩
 case round=>
  obtain⟨k,fB,G,hk,rfl,ZG,hf,ho,hG,hb⟩:=hrel;have Za:=aa ZG;clear ZG;by_cases hlt:k<len
  ·obtain⟨b,off,x,eL,eS,eO,eN,eU,eQ,eM,eT,eP,fh,fo,fk,eD,eF,eE,rfl,gD,hx,fE,xO,hc1,hc2,hc3,hc4,Jx,Wx,Wy,hc8,hc9,aa4,aa5⟩:=P2 (fF h hb) hlt;have HX:=aa (eJ hx);have HM:=aa (aA hx);have OB:szD x.toD<=1048576:=by have:=rC (dt (f:=Hop.toD) HM.out);omega
   clear hx;go_wp2_with fail;refine(HI.out x HM.out _ _ (gY fE hb.size) OB).mono ?_;rintro e w1 ⟨cs1,G1,rfl,Hz,Cf,hb1⟩;obtain⟨nr,nA,nv,nu,nC,nz,nt,nB,ny,pV,pX,pW,lY,l6,lZ,rfl,_⟩:=lQ (eW _ _ _ _ Hz);have hf1:=hf.next hb1;have AR:=hf.lt;obtain⟨u0,hu0⟩:=hf1.cell (k*12) dP;have rJ:=hf1.frozen (k*12);obtain⟨u1,hu1⟩:=hf1.cell (k*12+1) dP;have tW:=hf1.frozen (k*12+1);obtain⟨u2,hu2⟩:=hf1.cell (k*12+2) dP;have hz2:=hf1.frozen (k*12+2);obtain⟨u3,hu3⟩:=hf1.cell (k*12+3) dP;have hz3:=hf1.frozen (k*12+3);obtain⟨u4,hu4⟩:=hf1.cell (k*12+4) dP;have hz4:=hf1.frozen (k*12+4);obtain⟨u5,hu5⟩:=hf1.cell (k*12+5) dP;have hz5:=hf1.frozen (k*12+5);obtain⟨u6,hu6⟩:=hf1.cell (k*12+6) dP;have hz6:=hf1.frozen (k*12+6);obtain⟨u7,hu7⟩:=hf1.cell (k*12+7) dP;have hz7:=hf1.frozen (k*12+7);obtain⟨u8,hu8⟩:=hf1.cell (k*12+8) dP;have hz8:=hf1.frozen (k*12+8);obtain⟨u9,hu9⟩:=hf1.cell (k*12+9) dP;have hz9:=hf1.frozen (k*12+9);obtain⟨u10,hu10⟩:=hf1.cell (k*12+10) dP;have hz10:=hf1.frozen (k*12+10);obtain⟨LP,hu11⟩:=hf1.cell (k*12+11) dP;have hz11:=hf1.frozen (k*12+11);go_wp2_with fail;have hfp:=((((((((((((hf1.put dP (.int .i64 x.kind)).put dP (sv x.name)).put dP (sv x.frm)).put dP (.int .i64 x.at_)).put dP (.int .i64 x.value.kind)).put dP (.slice nr nA nv)).put dP (.slice nu nC nz)).put dP (.slice nt nB ny)).put dP (.slice pV pX pW)).put dP (.slice lY l6 lZ)).put dP (.int .i64 x.value.code)).put dP (.int .i64 x.value.env));have XE:=(((((((((((((hb.trans (hb1.mono hb.size)).setCell (p:=⟨w.heap.size,k*12,none⟩) (af _) (.int .i64 x.kind)).setCell (p:=⟨w.heap.size,k*12+1,none⟩) (af _) (sv x.name)).setCell (p:=⟨w.heap.size,k*12+2,none⟩) (af _) (sv x.frm)).setCell (p:=⟨w.heap.size,k*12+3,none⟩) (af _) (.int .i64 x.at_)).setCell (p:=⟨w.heap.size,k*12+4,none⟩) (af _) (.int .i64 x.value.kind)).setCell (p:=⟨w.heap.size,k*12+5,none⟩) (af _) (.slice nr nA nv)).setCell (p:=⟨w.heap.size,k*12+6,none⟩) (af _) (.slice nu nC nz)).setCell (p:=⟨w.heap.size,k*12+7,none⟩) (af _) (.slice nt nB ny)).setCell (p:=⟨w.heap.size,k*12+8,none⟩) (af _) (.slice pV pX pW)).setCell (p:=⟨w.heap.size,k*12+9,none⟩) (af _) (.slice lY l6 lZ)).setCell (p:=⟨w.heap.size,k*12+10,none⟩) (af _) (.int .i64 x.value.code)).setCell (p:=⟨w.heap.size,k*12+11,none⟩) (af _) (.int .i64 x.value.env));have hnG:w.heap.size ∉ G++G1:=yd;have hoA:=s_ (xV ho hb1) Hz;have hoB:iv prog (((((((((((((w1.setCell ⟨w.heap.size,k*12,none⟩ (.int .i64 x.kind)).setCell ⟨w.heap.size,k*12+1,none⟩ (sv x.name)).setCell ⟨w.heap.size,k*12+2,none⟩ (sv x.frm)).setCell ⟨w.heap.size,k*12+3,none⟩ (.int .i64 x.at_)).setCell ⟨w.heap.size,k*12+4,none⟩ (.int .i64 x.value.kind)).setCell ⟨w.heap.size,k*12+5,none⟩ (.slice nr nA nv)).setCell ⟨w.heap.size,k*12+6,none⟩ (.slice nu nC nz)).setCell ⟨w.heap.size,k*12+7,none⟩ (.slice nt nB ny)).setCell ⟨w.heap.size,k*12+8,none⟩ (.slice pV pX pW)).setCell ⟨w.heap.size,k*12+9,none⟩ (.slice lY l6 lZ)).setCell ⟨w.heap.size,k*12+10,none⟩ (.int .i64 x.value.code)).setCell ⟨w.heap.size,k*12+11,none⟩ (.int .i64 x.value.env))) ((l.take (k+1)).map Hop.toD) 40 (G++G1) (fB.map Row.v++[[.int .i64 x.kind,sv x.name,sv x.frm,.int .i64 x.at_,.int .i64 x.value.kind,.slice nr nA nv,.slice nu nC nz,.slice nt nB ny,.slice pV pX pW,.slice lY l6 lZ,.int .i64 x.value.code,.int .i64 x.value.env]]):=mI _ _ _ _ (λg hg=>(pk fX (pk fX (pk fX (pk fX (pk fX (pk fX (pk fX (pk fX (pk fX (pk fX (pk fX (pk fX (rfl)))))))))))))) wb;go_roundw
   case rel=>
    exact⟨k+1,fB++[⟨[.int .i64 x.kind,sv x.name,sv x.frm,.int .i64 x.at_,.int .i64 x.value.kind,.slice nr nA nv,.slice nu nC nz,.slice nt nB ny,.slice pV pX pW,.slice lY l6 lZ,.int .i64 x.value.code,.int .i64 x.value.env],rfl⟩],G++G1,by omega,by go_num,by simp [Za.out],by rw[cj,show (k+1)*12=k*12+12 by omega];simpa [Row.v]using hfp,by rw[aI];exact hoB,hG.app (qF _ _ _ _ ho) Cf dP,XE⟩
   case measure=>simp [intOf];omega
  ·obtain rfl:k=len:=dP;rw[aC ji]at ho;go_wp2_with fail;go_ret;refine⟨_,_,_,w.heap.size::G,rfl,?_,?_,hb⟩
   ·rw[own];exact⟨40,_,k,k,12,fB,G,underlying31,by kernel_rfl,rfl,by unfold maxLen;omega,hf.own Row.len Za.out (af _) eb (dj _),rfl,ho⟩
   ·exact yB
theorem Ax (x:Hop):C_ x:=Oh x
theorem Hl (l:List Hop) (A:Option Addr) (len cap:Nat) (w:World) (h:rep w w.heap.size (.sl (l.map Hop.toD)) [.slice A len cap]) (hz:szD (.sl (l.map Hop.toD))<=1048576):
 Calls prog 19 #[.slice A len cap] w (oK (l.map Hop.toD) 31 w):=aaK l (λx _=>Ax x) A len cap w h hz
def C7 (x:Hop):Prop:=∀(cs cs':List Value) (w:World),rep w w.heap.size x.toD cs->rep w w.heap.size x.toD cs'->Calls prog 30 #[.agg cs.toArray,.agg cs'.toArray] w λe w'=>e= .returned (.bool true)/\Below w.heap.size w w'
theorem MF (x:Hop):C7 x:=by
 intro cs cs' w h h';obtain⟨eL,eS,eO,eN,eU,eQ,eM,eT,eP,fh,fo,fk,eD,eF,eE,rfl,tu,Kj,Tp,V9,me⟩:=lQ h;obtain⟨mX,nE,m_,mZ,nI,no,mY,nH,nj,pP,p8,pT,lN,l9,lT,rfl,ach,aix,akJ,akF,LE⟩:=lQ h';have aev:(x.kind != x.kind)=false:=dR;have aj8:(x.name==x.name)=true:=dR;have ifrm:(x.frm==x.frm)=true:=dR;have iat_:(x.at_ != x.at_)=false:=dR;have q0:=((Below.refl w.heap.size w).alloc (af _) (.cells #[x.kind,sv x.name,sv x.frm,x.at_,x.value.kind,.slice eL eS eO,.slice eN eU eQ,.slice eM eT eP,.slice fh fo fk,.slice eD eF eE,x.value.code,x.value.env] 40)).alloc eA (.cells #[x.kind,sv x.name,sv x.frm,x.at_,x.value.kind,.slice mX nE m_,.slice mZ nI no,.slice mY nH nj,.slice pP p8 pT,.slice lN l9 lT,x.value.code,x.value.env] 40);go_enter func30,ntmps30;go_wp2_with fail;refine(zv x.value _ _ _ (fb me q0 q0.size) (fb LE q0 q0.size)).mono ?_;rintro e w1 ⟨rfl,b1⟩;obtain⟨hc1,_⟩:=fY b1;have z1:=b1.size
 (try simp only[dT]at hc1 z1)
 have Wc:w.heap.size<w1.heap.size:=dP;have Wd:w.heap.size+1<w1.heap.size:=dP;have q1:=ij q0 b1;go_wp2_with fail;go_ret;exact⟨rfl,q1⟩
theorem aav (l:List Hop) (ih:∀x∈l,C7 x) (A A':Option Addr) (n n' c c':Nat) (w:World) (h:rep w w.heap.size (.sl (l.map Hop.toD)) [.slice A n c]) (h':rep w w.heap.size (.sl (l.map Hop.toD)) [.slice A' n' c']):
 Calls prog 22 #[.slice A n c,.slice A' n' c'] w λe w'=>e= .returned (.bool true)/\Below w.heap.size w w':=by
 obtain⟨kO,hlc,sT⟩:=ef h;obtain⟨Nf,adU,adD⟩:=ef h';rw[au]at kO Nf;obtain rfl:n'=n:=dP;have hd:((n':Int) != (n':Int))=false:=dR;unfold maxLen at sT;have HI:=aa ih;clear kO Nf ih;go_enter func22,ntmps22;go_wp2_with fail;go_loopw [5] (λi wr=>∃(k:Nat),k<=n'/\i= .int .i64 k/\Below w.heap.size w wr) (λi _=>n' - (intOf i).toNat)
 case atStart=>exact⟨0,by omega,rfl,Below.refl _ _⟩
 case round=>
  obtain⟨k,hk,rfl,hb⟩:=hrel;by_cases hlt:k<n'
  ·obtain⟨b,off,x,eL,eS,eO,eN,eU,eQ,eM,eT,eP,fh,fo,fk,eD,eF,eE,rfl,gD,hx,fE,xO,hc1,hc2,hc3,hc4,Jx,Wx,Wy,hc8,hc9,aa4,aa5⟩:=P2 (fF h hb) hlt;obtain⟨b',qv,x',mX,nE,m_,mZ,nI,no,mY,nH,nj,pP,p8,pT,lN,l9,lT,rfl,XC,qD,UH,Hy,Jy,It,hd3,hd4,hd5,hd6,hd7,hd8,hd9,ae0,ae1⟩:=P2 (fF h' hb) hlt;obtain rfl:x=x':=P1;have HM:=aa (aA hx);clear hx qD;have i1:(0:Int)<=(k:Int):=dP;have i2:(k:Int)<(n':Int):=dP;have uK:b<wr.heap.size:=od;have rh:b'<wr.heap.size:=od;have WE:=gY fE hb.size;have TA:=gY UH hb.size;go_wp2_with fail;go_region_held3 (λW=>(W.cell? ⟨b,off+k*12,none⟩=some (.int .i64 x.kind)/\W.cell? ⟨b,off+k*12+1,none⟩=some (sv x.name)/\W.cell? ⟨b,off+k*12+2,none⟩=some (sv x.frm)/\W.cell? ⟨b,off+k*12+3,none⟩=some (.int .i64 x.at_)/\W.cell? ⟨b,off+k*12+4,none⟩=some (.int .i64 x.value.kind)/\W.cell? ⟨b,off+k*12+5,none⟩=some (.slice eL eS eO)/\W.cell? ⟨b,off+k*12+6,none⟩=some (.slice eN eU eQ)/\W.cell? ⟨b,off+k*12+7,none⟩=some (.slice eM eT eP)/\W.cell? ⟨b,off+k*12+8,none⟩=some (.slice fh fo fk)/\W.cell? ⟨b,off+k*12+9,none⟩=some (.slice eD eF eE)/\W.cell? ⟨b,off+k*12+10,none⟩=some (.int .i64 x.value.code)/\W.cell? ⟨b,off+k*12+11,none⟩=some (.int .i64 x.value.env))/\(W.cell? ⟨b',qv+k*12,none⟩=some (.int .i64 x.kind)/\W.cell? ⟨b',qv+k*12+1,none⟩=some (sv x.name)/\W.cell? ⟨b',qv+k*12+2,none⟩=some (sv x.frm)/\W.cell? ⟨b',qv+k*12+3,none⟩=some (.int .i64 x.at_)/\W.cell? ⟨b',qv+k*12+4,none⟩=some (.int .i64 x.value.kind)/\W.cell? ⟨b',qv+k*12+5,none⟩=some (.slice mX nE m_)/\W.cell? ⟨b',qv+k*12+6,none⟩=some (.slice mZ nI no)/\W.cell? ⟨b',qv+k*12+7,none⟩=some (.slice mY nH nj)/\W.cell? ⟨b',qv+k*12+8,none⟩=some (.slice pP p8 pT)/\W.cell? ⟨b',qv+k*12+9,none⟩=some (.slice lN l9 lT)/\W.cell? ⟨b',qv+k*12+10,none⟩=some (.int .i64 x.value.code)/\W.cell? ⟨b',qv+k*12+11,none⟩=some (.int .i64 x.value.env)))
    (first|exact⟨⟨xO,hc1,hc2,hc3,hc4,Jx,Wx,Wy,hc8,hc9,aa4,aa5⟩,⟨Hy,Jy,It,hd3,hd4,hd5,hd6,hd7,hd8,hd9,ae0,ae1⟩⟩|exact⟨⟨(hb1.cell uK).trans xO,(hb1.cell uK).trans hc1,(hb1.cell uK).trans hc2,(hb1.cell uK).trans hc3,(hb1.cell uK).trans hc4,(hb1.cell uK).trans Jx,(hb1.cell uK).trans Wx,(hb1.cell uK).trans Wy,(hb1.cell uK).trans hc8,(hb1.cell uK).trans hc9,(hb1.cell uK).trans aa4,(hb1.cell uK).trans aa5⟩,⟨(hb1.cell rh).trans Hy,(hb1.cell rh).trans Jy,(hb1.cell rh).trans It,(hb1.cell rh).trans hd3,(hb1.cell rh).trans hd4,(hb1.cell rh).trans hd5,(hb1.cell rh).trans hd6,(hb1.cell rh).trans hd7,(hb1.cell rh).trans hd8,(hb1.cell rh).trans hd9,(hb1.cell rh).trans ae0,(hb1.cell rh).trans ae1⟩⟩)
    (first|(go_at_call 30;refine(HI.out x HM.out _ _ _ wC wD).mono ?_;rintro e w1 ⟨rfl,hb1⟩))
   go_wp2_with fail;go_roundw
   case rel=>exact⟨k+1,by omega,by go_num,ij hb.drew hb1⟩
   case measure=>simp [intOf];omega
  ·exact yJ
theorem KQ (x:Hop):C7 x:=MF x
theorem aaq (l:List Hop) (A A':Option Addr) (n n' c c':Nat) (w:World) (h:rep w w.heap.size (.sl (l.map Hop.toD)) [.slice A n c]) (h':rep w w.heap.size (.sl (l.map Hop.toD)) [.slice A' n' c']):
 Calls prog 22 #[.slice A n c,.slice A' n' c'] w λe w'=>e= .returned (.bool true)/\Below w.heap.size w w':=aav l (λx _=>KQ x) A A' n n' c c' w h h'
theorem Ny (d:Nat) (Us:(d:Int)<=100):isP d:=by
 induction d with
 |zero=>exact QZ 0 Us (λd' h=>by omega)
 |succ d ih=>
  refine QZ (d+1) Us (λd' h=>?_);have hdd:d'=d:=dP;rw[hdd];exact ih dP
theorem ew (v:Vec) (cs:List Value) (w:World) (h:rep w w.heap.size v.toD cs) (ga:bigV v):
 Calls prog 67 #[av cs] w λe w'=>e= .returned (.bool (isVec v))/\Below w.heap.size w w':=by
 have hcb:=ga.cells;obtain⟨Ai,ni,ci,Ap,np,cp,An,nn,cn,Ac,nc,cc,Al,nl,cl,rfl,hv⟩:=iy h;have q0:=(Below.refl w.heap.size w).alloc (af _) (.cells (vc v Ai ni ci Ap np cp An nn cn Ac nc cc Al nl cl).toArray 38);go_enter func67,ntmps67;go_wp2_with fail;refine(Ny 3 dP v _ _ (fM h q0) ga).mono ?_;rintro e w1 ⟨rfl,hb1⟩;have q1:=ij q0 hb1;obtain⟨hc1,_⟩:=fY hb1;simp only[dT]at hc1;cases hp:okD 3 v with
 |false=>
  go_wp2_with fail;go_ret;exact⟨dZ (by rw[isVec,hp];rfl),q1⟩
 |true=>
 go_wp2_with fail;refine(Nx v _ _ (fM (fM h q0) hb1) ga).mono ?_;rintro e w2 ⟨rfl,jS⟩;have HR:=aa (show isVec v=decide (jF v<=200) by rw[isVec,hp];rfl);go_wp2_with fail;go_ret;exact⟨dZ (by rw[HR.out,dL];omega),ij q1 jS⟩
def AV (x:Hop):Bool:=
 if x.kind=0 then x.frm.isEmpty&&decide (x.at_=0)
 else if x.kind=2 then x.frm.isEmpty&&decide (1<=x.at_/\x.at_<=40)&&atomK x.value.kind&&decide (x.value.items.length=1)
 else if x.kind=1\/x.kind=3 then isNm x.frm&&decide (x.at_=0/\x.value.kind=0) else false
def je (x:Hop):Bool:=isNm x.name&&isVec x.value&& !xN x.value&&AV x
theorem kS (x:Hop) (cs:List Value) (w:World) (h:rep w w.heap.size x.toD cs) (ga:bigV x.value):
 Calls prog 36 #[av cs] w λe w'=>e= .returned (.bool (je x))/\Below w.heap.size w w':=by
 obtain⟨Ai,ni,ci,Ap,np,cp,An,nn,cn,Ac,nc,cc,Al,nl,cl,rfl,wk,wn,wf,wa,gF⟩:=lQ h;obtain⟨Ru,SN,RP,Rx,SP,RS,Ct,CE,Hw,L4,JS,L7,Rv,SO,Mz,lK,hv⟩:=iy gF;injection lK with _ lK;injection lK with e1 lK;injection lK with e2 lK;injection lK with e3 lK;injection lK with e4 lK;injection lK with e5 lK
 injection e1 with e11 e12 e13;subst e11 e12 e13
 have OQ:=aa hv.it.len;have L_:=Blk.new_ w 40 #[x.kind,sv x.name,sv x.frm,x.at_,x.value.kind,.slice Ai ni ci,.slice Ap np cp,.slice An nn cn,.slice Ac nc cc,.slice Al nl cl,x.value.code,x.value.env];have q0:=(Below.refl w.heap.size w).alloc (af _) (.cells #[x.kind,sv x.name,sv x.frm,x.at_,x.value.kind,.slice Ai ni ci,.slice Ap np cp,.slice An nn cn,.slice Ac nc cc,.slice Al nl cl,x.value.code,x.value.env] 40);have HI:=aa (show je x=(isNm x.name&&isVec x.value&& !xN x.value&&AV x) from rfl);clear e2 e3 e4 e5 lK;go_enter func36,ntmps36;go_wp2_with fail;refine(jK x.name _ wn).mono ?_;rintro e w1 ⟨rfl,rfl⟩;cases hn:isNm x.name with
 |false=>
  go_wp2_with fail;go_ret;exact⟨dZ (by rw[HI.out,hn];rfl),q0⟩
 |true=>
 go_wp2_with fail;refine(ff x.value _ _ (fM gF q0) ga).mono ?_;rintro e w2 ⟨rfl,jS⟩;have q2:=ij q0 jS;have U9:=L_.next jS;obtain⟨hc2,_⟩:=fY jS;simp only[dT]at hc2;cases hvv:isVec x.value with
 |false=>
  go_wp2_with fail;go_ret;exact⟨dZ (by rw[HI.out,hn,hvv];rfl),q2⟩
 |true=>
 go_wp2_with fail;refine(Cg x.value _ _ (fM (fM gF q0) jS)).mono ?_;rintro e w3 ⟨rfl,lE⟩;have q3:=ij q2 lE;have tz:=U9.next lE;have c0:=tz.cell 0;have c2:=tz.cell 2;have c3:=tz.cell 3;have c4:=tz.cell 4;have c5:=tz.cell 5;have c6:=tz.cell 6;have c7:=tz.cell 7;have c8:=tz.cell 8;have c9:=tz.cell 9;have c10:=tz.cell 10;have c11:=tz.cell 11;simp only[ah,ag]at c0 c2 c3 c4 c5 c6 c7 c8 c9 c10 c11;clear hc2;cases hff:xN x.value with
 |true=>
  go_wp2_with fail;go_ret;exact⟨dZ (by rw[HI.out,hn,hvv,hff];rfl),q3⟩
 |false=>
 have HR:=aa (show je x=AV x by rw[HI.out,hn,hvv,hff];rfl);by_cases k0:x.kind=0
 ·exact F0
 have t0:(x.kind==0)=false:=by simpa using k0
 by_cases k2:x.kind=2
 ·have t2:(x.kind==2)=true:=ot;have HK:=aa (show je x=(x.frm.isEmpty&&decide (1<=x.at_/\x.at_<=40)&&atomK x.value.kind&&decide (ni=1)) by rw[HR.out,AV,aH k0,aN k2,OQ.out]);clear k0 k2;cases hfe:x.frm.isEmpty with
  |false=>
   go_wp2_with fail;go_ret;exact⟨dZ (by rw[HK.out,hfe];rfl),q3⟩
  |true=>
  by_cases ha:1<=x.at_/\x.at_<=40
  case neg=>
   have HB:=aa (show je x=false by rw[HK.out,aK ha];simp);have HA:=aa ha;clear ha;go_wp2_with fail;all_goals first|(go_ret;exact⟨dZ HB.out.symm,q3⟩)|(exfalso;apply HA.out;omega)
  have a1:decide (1<=x.at_)=true:=aM ha.1;have a2:decide (x.at_<=40)=true:=aM ha.2;have HK2:=aa (show je x=(atomK x.value.kind&&decide (ni=1)) by rw[HK.out,hfe,aM ha];rfl);go_wp2_with fail;refine(oY x.value _ _ (fb gF q3 q3.size)).mono ?_;rintro e w4 ⟨rfl,DB⟩;have c45:=(tz.next DB).cell 5;simp only[ah,ag]at c45;cases hat:atomK x.value.kind with
  |false=>
   go_wp2_with fail;go_ret;exact⟨dZ (by rw[HK2.out,hat];rfl),ij q3 DB⟩
  |true=>
   go_wp2_with fail;go_ret;exact⟨dZ (by rw[HK2.out,hat,aj,bg];simp;omega),ij q3 DB⟩
 have t2:(x.kind==2)=false:=ot;by_cases k13:x.kind=1\/x.kind=3
 ·have HK:=aa (show je x=(isNm x.frm&&decide (x.at_=0/\x.value.kind=0)) by rw[HR.out,AV,aH k0,aH k2,aN k13]);clear k0 k2;rcases k13 with k1|k1
  case' inl=>have t1:(x.kind==1)=true:=by simpa using k1
  case' inr=>
   have t1:(x.kind==1)=false:=dS;have t3:(x.kind==3)=true:=by simpa using k1
  all_goals
   clear k1;go_wp2_with fail;refine(jK x.frm _ wf).mono ?_;rintro e w4 ⟨rfl,rfl⟩;cases hnf:isNm x.frm
   case false=>
    go_wp2_with fail;go_ret;exact⟨dZ (by rw[HK.out,hnf];rfl),q3⟩
   go_wp2_with fail;all_goals (go_ret;refine⟨dZ ?_,q3⟩;rw[HK.out,hnf,aj,bg];simp [*])
 ·have t1:(x.kind==1)=false:=dS;have t3:(x.kind==3)=false:=dS;have HK:=aa (show je x=false by rw[HR.out,AV,aH k0,aH k2,aH k13]);clear k0 k2 k13;go_wp2_with fail;go_ret;exact⟨dZ HK.out.symm,q3⟩
theorem kZ (x:Hop) (cs:List Value) (w:World) (h:rep w w.heap.size x.toD cs) (ga:bigV x.value):
 Calls prog 47 #[av cs] w λe w'=>e= .returned (.bool (je x))/\Below w.heap.size w w':=by
 obtain⟨Ai,ni,ci,Ap,np,cp,An,nn,cn,Ac,nc,cc,Al,nl,cl,rfl,wk,wn,wf,wa,gF⟩:=lQ h;obtain⟨Ru,SN,RP,Rx,SP,RS,Ct,CE,Hw,L4,JS,L7,Rv,SO,Mz,lK,hv⟩:=iy gF;injection lK with _ lK;injection lK with e1 lK;injection lK with e2 lK;injection lK with e3 lK;injection lK with e4 lK;injection lK with e5 lK
 injection e1 with e11 e12 e13;subst e11 e12 e13
 have OQ:=aa hv.it.len;have L_:=Blk.new_ w 40 #[x.kind,sv x.name,sv x.frm,x.at_,x.value.kind,.slice Ai ni ci,.slice Ap np cp,.slice An nn cn,.slice Ac nc cc,.slice Al nl cl,x.value.code,x.value.env];have q0:=(Below.refl w.heap.size w).alloc (af _) (.cells #[x.kind,sv x.name,sv x.frm,x.at_,x.value.kind,.slice Ai ni ci,.slice Ap np cp,.slice An nn cn,.slice Ac nc cc,.slice Al nl cl,x.value.code,x.value.env] 40);have HI:=aa (show je x=(isNm x.name&&isVec x.value&& !xN x.value&&AV x) from rfl);clear e2 e3 e4 e5 lK;go_enter func47,ntmps47;go_wp2_with fail;refine(gj _ _ _ _).mono ?_;rintro e w1 ⟨rfl,rfl⟩;cases hk:decide (0<=x.kind/\x.kind<=3) with
 |false=>
  have HB:=aa (show je x=false by have:=dm hk;rw[HI.out,AV,aH dP,aH dP,aH dP];simp)
  go_wp2_with fail;go_ret;exact⟨dZ HB.out.symm,q0⟩
 |true=>
 have hk':=cD hk;clear hk;go_wp2_with fail;refine(jL x.name _ wn).mono ?_;rintro e w1 ⟨rfl,rfl⟩;cases hn:isNm x.name with
 |false=>
  go_wp2_with fail;go_ret;exact⟨dZ (by rw[HI.out,hn];rfl),q0⟩
 |true=>
 go_wp2_with fail;refine(ew x.value _ _ (fM gF q0) ga).mono ?_;rintro e w2 ⟨rfl,jS⟩;have q2:=ij q0 jS;have U9:=L_.next jS;obtain⟨hc2,_⟩:=fY jS;simp only[dT]at hc2;cases hvv:isVec x.value with
 |false=>
  go_wp2_with fail;go_ret;exact⟨dZ (by rw[HI.out,hn,hvv];rfl),q2⟩
 |true=>
 go_wp2_with fail;refine(xT x.value _ _ (fM (fM gF q0) jS)).mono ?_;rintro e w3 ⟨rfl,lE⟩;have q3:=ij q2 lE;have tz:=U9.next lE;have c0:=tz.cell 0;have c2:=tz.cell 2;have c3:=tz.cell 3;have c4:=tz.cell 4;have c5:=tz.cell 5;simp only[ah,ag]at c0 c2 c3 c4 c5;clear hc2;cases hff:xN x.value with
 |true=>
  go_wp2_with fail;go_ret;exact⟨dZ (by rw[HI.out,hn,hvv,hff];rfl),q3⟩
 |false=>
 have HR:=aa (show je x=AV x by rw[HI.out,hn,hvv,hff];rfl);by_cases k0:x.kind=0
 ·exact F0
 have t0:(x.kind==0)=false:=by simpa using k0
 by_cases k2:x.kind=2
 ·have t2:(x.kind==2)=true:=ot;have HK:=aa (show je x=(x.frm.isEmpty&&decide (1<=x.at_/\x.at_<=40)&&atomK x.value.kind&&decide (ni=1)) by rw[HR.out,AV,aH k0,aN k2,OQ.out]);clear k0 k2;cases hfe:x.frm.isEmpty with
  |false=>
   go_wp2_with fail;go_ret;exact⟨dZ (by rw[HK.out,hfe];rfl),q3⟩
  |true=>
  go_wp2_with fail;refine(gj _ _ _ _).mono ?_;rintro e w4 ⟨rfl,rfl⟩;cases ha:decide (1<=x.at_/\x.at_<=40) with
  |false=>
   go_wp2_with fail;go_ret;exact⟨dZ (by rw[HK.out,ha];simp),q3⟩
  |true=>
  go_wp2_with fail;refine(gj _ _ _ _).mono ?_;rintro e w4 ⟨rfl,rfl⟩;cases hat:decide (1<=x.value.kind/\x.value.kind<=3) with
  |false=>
   go_wp2_with fail;go_ret;exact⟨dZ (by rw[HK.out,atomK,hat];simp),q3⟩
  |true=>
   go_wp2_with fail;go_ret;exact⟨dZ (by rw[HK.out,atomK,hat,ha,hfe,aj,aj,aj,bg];simp;omega),q3⟩
 have t2:(x.kind==2)=false:=ot;have HK:=aa (show je x=(isNm x.frm&&decide (x.at_=0/\x.value.kind=0)) by rw[HR.out,AV,aH k0,aH k2,aN dP]);clear k0 k2;go_wp2_with fail;refine(jL x.frm _ wf).mono ?_;rintro e w4 ⟨rfl,rfl⟩;cases hnf:isNm x.frm with
 |false=>
  go_wp2_with fail;go_ret;exact⟨dZ (by rw[HK.out,hnf];rfl),q3⟩
 |true=>
 go_wp2_with fail;all_goals (go_ret;refine⟨dZ ?_,q3⟩;rw[HK.out,hnf,aj,bg];simp [*])
end Go.Proofs.YtekcpadlmfaihaaGreat
