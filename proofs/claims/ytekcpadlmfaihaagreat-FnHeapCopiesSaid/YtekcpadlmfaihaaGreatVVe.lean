/- The shape of vectors: what shapeValid returns. -/
import Derived.Test.YtekcpadlmfaihaaGreatVVb
import Derived.Deep.DeepCutAuto
namespace Go.Proofs.YtekcpadlmfaihaaGreat
open Go.RowKit Proofs.Tryz
set_option maxHeartbeats 4000000
set_option maxRecDepth 100000
set_option linter.unusedSimpArgs false
set_option linter.unusedVariables false
theorem ET (v:Vec) (cs:List Value) (w:World) (h:rep w w.heap.size v.toD cs) (ga:bigV v):
 Calls prog 171 #[av cs] w λe w'=>e= .returned (.bool (h_ v))/\Below w.heap.size w w':=by
 have MX:=ga.len;have kQ:=wV v;obtain⟨Ai,ni,ci,Ap,np,cp,An,nn,cn,Ac,nc,cc,Al,nl,cl,rfl,hv⟩:=iy h;have q0:=(Below.refl w.heap.size w).alloc (af _) (.cells (vc v Ai ni ci Ap np cp An nn cn Ac nc cc Al nl cl).toArray 38);have L_:=Blk.new_ w 38 (vc v Ai ni ci Ap np cp An nn cn Ac nc cc Al nl cl).toArray;have hC:P6 v=decide (IZ v.kind v.code v.env ni np nn nc nl):=BS;have HC:=aa hC;have Ou:=aa (@aim v);have b1:=hv.itb;have b2:=hv.pab;have b3:=hv.nab;have b4:=hv.cab;have b5:=hv.lab;unfold maxLen at b1 b2 b3 b4 b5;have OQ:=aa hv.it.len;have HL3:=aa hv.na.len;have HL5:=aa hv.la.len;have b2':np<=9223372036854775807:=dP;clear hC b2;go_enter func171,ntmps171;go_wp2_with fail;refine(pC v _ _ (fM h q0) dP).mono ?_;rintro e w1 ⟨rfl,hb1⟩;have q1:=ij q0 hb1;have TF:=L_.next hb1;have c10:w1.cell? ⟨w.heap.size,0,none⟩=some (.int .i64 v.kind):=TF.cell 0;have c14:w1.cell? ⟨w.heap.size,4,none⟩=some (.slice Ac nc cc):=TF.cell 4;by_cases k0:0<=v.kind/\v.kind<=5/\lenV v<=40
 case neg=>
  have HB:=aa (Ou.out (.inl (by rw[CO,aK k0];rfl)));have HK:=aa k0;clear k0;go_wp2_with fail;all_goals first|(go_ret;exact⟨dZ HB.out.symm,q1⟩)|(exfalso;apply HK.out;omega)
 obtain⟨k01,k02,k03⟩:=k0;have dk0:decide (v.kind<0)=false:=dS;have dk5:decide (5<v.kind)=false:=dS;have dk4:decide ((40:Int)<(lenV v:Int))=false:=dS;have HA0:=aa (show CO v=(mF v.cls 3&&mF v.levels 20) by rw[CO,aM ⟨k01,k02,k03⟩];rfl);go_wp2_with fail;refine(uI Ac nc cc v.cls 3 _ ((hv.ca.below q1).more q1.size) hv.cao b4.1 eb dP).mono ?_;rintro e w2 ⟨rfl,jS⟩;have q2:=ij q1 jS;have U9:=TF.next jS;have c25:w2.cell? ⟨w.heap.size,5,none⟩=some (.slice Al nl cl):=U9.cell 5;cases l1:mF v.cls 3 with
 |false=>
  go_wp2_with fail;go_ret;exact⟨dZ (Ou.out (.inl (by rw[HA0.out,l1];rfl))).symm,q2⟩
 |true=>
 go_wp2_with fail;refine(uI Al nl cl v.levels 20 _ ((hv.la.below q2).more q2.size) hv.lao b5.1 eb dP).mono ?_;rintro e w3 ⟨rfl,lE⟩;have q3:=ij q2 lE;have tz:=U9.next lE;have c33:w3.cell? ⟨w.heap.size,3,none⟩=some (.slice An nn cn):=tz.cell 3;cases l2:mF v.levels 20 with
 |false=>
  go_wp2_with fail;go_ret;exact⟨dZ (Ou.out (.inl (by rw[HA0.out,l1,l2];rfl))).symm,q3⟩
 |true=>
 have HA:=aa (show CO v=true by rw[HA0.out,l1,l2];rfl);clear l1 l2 c10 c14 c25 hb1 jS TF U9 q1 q2;have hN2:IY v=((decide (nn=0)||(decide (nn=lenV v)&& !lR v.names))&&v.names.all (λs=>decide (s.length<=60))):=by rw[IY,HL3.out]
 have HN2:=aa hN2;clear hN2;go_upto_region 4 with fail
 go_cut [49] (λc wx=>c= .bool (!(decide (nn=0)||(decide (nn=lenV v)&& !lR v.names)))/\Blk wx w.heap.size 38 (vc v Ai ni ci Ap np cp An nn cn Ac nc cc Al nl cl)/\Below w.heap.size w wx)
 case first=>as_aux_lemma=>
  by_cases n0:nn=0
  ·have d0:decide ((0:Int)<(nn:Int))=false:=dS;have d1:decide (0<nn)=false:=dS;have HB:=aa (show false= !(decide (nn=0)||(decide (nn=lenV v)&& !lR v.names)) by rw[aM n0];rfl);clear n0;go_wp2_with fail;go_meet;exact⟨cU Value.bool HB.out,tz,q3⟩
  have d0:decide ((0:Int)<(nn:Int))=true:=dS;by_cases hnl:nn=lenV v
  ·have d1:((nn:Int) != (lenV v:Int))=false:=dS;have HB:=aa (show lR v.names= !(decide (nn=0)||(decide (nn=lenV v)&& !lR v.names)) by rw[aK n0,aM hnl];simp);clear hnl;go_wp2_with fail;refine(za An nn cn v.names _ ((hv.na.below q3).more q3.size) eb).mono ?_;rintro e w4 ⟨rfl,DB⟩;go_wp2_with fail;go_meet;exact⟨cU Value.bool HB.out,tz.next DB,ij q3 DB⟩
  ·have d1:((nn:Int) != (lenV v:Int))=true:=dS;have HB:=aa (show true= !(decide (nn=0)||(decide (nn=lenV v)&& !lR v.names)) by rw[aK n0,aK hnl];rfl);clear hnl;go_wp2_with fail;go_meet;exact⟨cU Value.bool HB.out,tz,q3⟩
 case rest=>as_aux_lemma=>
  clear tz q3 c33 lE;obtain⟨rfl,Lf,qW⟩:=hcut;obtain⟨W,hW⟩:∃W:World,W=wc:=⟨_,rfl⟩;subst hW;cases hnm:(decide (nn=0)||(decide (nn=lenV v)&& !lR v.names)) with
  |false=>
   go_wp2_with fail;go_ret;exact⟨dZ (Ou.out (.inr (.inl (by rw[HN2.out,hnm];rfl)))).symm,qW⟩
  |true=>
  have Ws:=aa (show IY v=v.names.all (λs=>decide (s.length<=60)) by rw[HN2.out,hnm];rfl);clear hnm;have e0:=Lf.cell 0;have e1:=Lf.cell 1;have e2:=Lf.cell 2;have e3:=Lf.cell 3;have e4:=Lf.cell 4;have e5:=Lf.cell 5;have e6:=Lf.cell 6;have e7:=Lf.cell 7;simp only[ah,ag]at e0 e1 e2 e3 e4 e5 e6 e7;go_wp2_with fail;go_loop [53] (λi=>∃k:Nat,k<=nn/\i= .int .i64 k/\(v.names.take k).all (λs=>decide (s.length<=60))=true) (λi=>nn - (intOf i).toNat)
  case atStart=>exact⟨0,by omega,rfl,by simp⟩
  case round=>as_aux_lemma=>
   obtain⟨k,hk,rfl,hf⟩:=hrel;have HF:=aa hf;clear hf;by_cases hlt:k<nn
   ·obtain⟨b,off,x,rfl,gD,hx,xO⟩:=(hv.na.below qW).atS hlt;have X_:x.length<=9223372036854775807:=hv.nao _ (aA hx);have HX:=aa hx;clear hx;by_cases h60:(60:Int)<(x.length:Int)
    ·have HB:=aa (Ou.out (.inr (.inl (by rw[Ws.out];exact nN HX.out (aK dP)))));go_wp2_with fail;go_ret;exact⟨dZ HB.out.symm,qW⟩
    ·go_wp2_with fail;go_round
     case rel=>exact⟨k+1,by omega,by go_num,iY HX.out HF.out (aM dP)⟩
     case measure=>simp [intOf];omega
   ·have WA:k=nn:=dP;have HN:=aa (show IY v=true by rw[Ws.out];have:=HF.out;rwa [aC (by rw[HL3.out];omega)]at this);have dkn:decide ((k:Int)<(nn:Int))=false:=dS;have agv:decide (k<nn)=false:=dS;clear Ws HF HN2 hlt hk WA;obtain⟨p12,ad5⟩:∃p:Bool,p=decide (0<nl/\v.kind≠2\/0<np/\v.kind≠4):=⟨_,rfl⟩;have aax:=aa ad5;clear ad5;go_upto_region 12 with fail
    go_cut [80] (λc wx=>c= .bool p12/\W=wx)
    case first=>as_aux_lemma=>
     go_wp2_with fail;all_goals (go_meet;exact⟨cU Value.bool (by rw[aax.out];(first|exact(aM dP).symm|exact(aK dP).symm|(rw[bg];simp;omega)|(rw[bg];simp))),rfl⟩)
    case rest=>as_aux_lemma=>
    obtain⟨rfl,rfl⟩:=hcut;cases p12
    case true=>
     have Xy:=cD aax.out.symm;have HB:=aa (Ou.out (.inr (.inr (.inl qe))));clear Xy;go_wp2_with fail;go_ret;exact⟨dZ HB.out.symm,qW⟩
    have Xy:=dm aax.out.symm;have af_:=aa Xy;clear Xy;obtain⟨p14,ad6⟩:∃p:Bool,p=decide (v.kind≠5/\(v.code≠0\/v.env≠0)):=⟨_,rfl⟩;have aay:=aa ad6;clear ad6;go_upto_region 14 with fail
    go_cut [93] (λc wx=>c= .bool p14/\W=wx)
    case first=>as_aux_lemma=>
     go_wp2_with fail;all_goals (go_meet;exact⟨cU Value.bool (by rw[aay.out];(first|exact(aM dP).symm|exact(aK dP).symm|(rw[bg];simp;omega)|(rw[bg];simp))),rfl⟩)
    case rest=>as_aux_lemma=>
    obtain⟨rfl,rfl⟩:=hcut;cases p14
    case true=>
     have Xz:=cD aay.out.symm;have HB:=aa (Ou.out (.inr (.inr (.inl qe))));clear Xz;go_wp2_with fail;go_ret;exact⟨dZ HB.out.symm,qW⟩
    have Xz:=dm aay.out.symm;have aga:=aa Xz;clear Xz;obtain⟨p16,ad7⟩:∃p:Bool,p=decide (v.kind=5/\(0<ni\/0<nn\/v.code< -999\/99999<v.code\/v.env<0\/99999<v.env)):=⟨_,rfl⟩;have aaz:=aa ad7;clear ad7;go_upto_region 16 with fail
    go_cut [128] (λc wx=>c= .bool p16/\W=wx)
    case first=>as_aux_lemma=>
     rcases bz ni with Dj|Dj;all_goals rcases bz nn with aaH|aaH
     all_goals first|(have T8:decide ((0:Int)<(ni:Int))=false:=aK dP;have ezni:decide (0<ni)=false:=aK dP)|(have T8:decide ((0:Int)<(ni:Int))=true:=aM dP;have ezni:decide (0<ni)=true:=aM dP)
     all_goals first|(have agy:decide ((0:Int)<(nn:Int))=false:=aK dP;have eznn:decide (0<nn)=false:=aK dP)|(have agy:decide ((0:Int)<(nn:Int))=true:=aM dP;have eznn:decide (0<nn)=true:=aM dP)
     all_goals have TJ:=aa Dj
     all_goals have afS:=aa aaH
     all_goals clear Dj aaH
     all_goals go_wp2_with fail
     all_goals (go_meet;exact⟨cU Value.bool (by have:=TJ.out;have:=afS.out;rw[aaz.out];(first|exact(aM dP).symm|exact(aK dP).symm|(rw[bg];simp;omega)|(rw[bg];simp))),rfl⟩)
    case rest=>as_aux_lemma=>
    obtain⟨rfl,rfl⟩:=hcut;cases p16
    case true=>
     have XA:=cD aaz.out.symm;have HB:=aa (Ou.out (.inr (.inr (.inl qe))));clear XA;go_wp2_with fail;go_ret;exact⟨dZ HB.out.symm,qW⟩
    have XA:=dm aaz.out.symm;have agb:=aa XA;clear XA;obtain⟨p18,ad8⟩:∃p:Bool,p=decide (v.kind=0/\(0<ni\/0<nc)):=⟨_,rfl⟩;have aaA:=aa ad8;clear ad8;go_upto_region 18 with fail
    go_cut [143] (λc wx=>c= .bool p18/\W=wx)
    case first=>as_aux_lemma=>
     rcases bz ni with Dj|Dj;all_goals first|(have T8:decide ((0:Int)<(ni:Int))=false:=aK dP;have ezni:decide (0<ni)=false:=aK dP)|(have T8:decide ((0:Int)<(ni:Int))=true:=aM dP;have ezni:decide (0<ni)=true:=aM dP)
     all_goals have TJ:=aa Dj
     all_goals clear Dj
     all_goals go_wp2_with fail
     all_goals (go_meet;exact⟨cU Value.bool (by have:=TJ.out;rw[aaA.out];(first|exact(aM dP).symm|exact(aK dP).symm|(rw[bg];simp;omega)|(rw[bg];simp))),rfl⟩)
    case rest=>as_aux_lemma=>
    obtain⟨rfl,rfl⟩:=hcut;cases p18
    case true=>
     have aa6:=cD aaA.out.symm;have HB:=aa (Ou.out (.inr (.inr (.inl qe))));clear aa6;go_wp2_with fail;go_ret;exact⟨dZ HB.out.symm,qW⟩
    have aa6:=dm aaA.out.symm;have HCt:=aa (show P6 v=true by rw[HC.out];exact aM (by have:=af_.out;have:=aga.out;have:=agb.out;unfold IZ;omega));clear aa6;go_wp2_with fail;go_loopw [147] (λi wr=>∃k:Nat,k<=ni/\i= .int .i64 k/\(v.items.take k).all (wZ v)=true/\Below W.heap.size W wr) (λi _=>ni - (intOf i).toNat)
    case atStart=>exact⟨0,by omega,rfl,rfl,Below.refl _ _⟩
    case round=>as_aux_lemma=>
     obtain⟨k,hk,rfl,hf,hb⟩:=hrel;have HF:=aa hf;clear hf e0 e1 e2 e3 e4 e5 e6 e7;have qr:=ij qW hb;have kr:=Lf.next hb;have e0:=kr.cell 0;have e1:=kr.cell 1;have e2:=kr.cell 2;have e3:=kr.cell 3;have e4:=kr.cell 4;have e5:=kr.cell 5;have e6:=kr.cell 6;have e7:=kr.cell 7;simp only[ah,ag]at e0 e1 e2 e3 e4 e5 e6 e7;have zr:=kr.lt;by_cases hlt:k<ni
     ·obtain⟨b,off,x,rfl,gD,hx,xO,hc1,hc2⟩:=(hv.it.below qr).at3 hlt;have hok:=hv.ito _ (aA hx);have HX:=aa hx;have HBI:=aa (λ(h:wZ v x=false)=>Ou.out (.inr (.inr (.inr (nN HX.out h)))));clear hx;have qx:=qr.alloc qr.size (.cells #[x.num,x.den,sv x.text] 135);go_wp2_with fail;refine(oY v _ _ (fb h qx (by simp only[dT];have:=qr.size;omega))).mono ?_;rintro e w5 ⟨rfl,Is⟩;have q5:=ij qx Is;obtain⟨Jx,_⟩:=fY Is;simp only[dT]at Jx;have z5:=Is.size;simp only[dT]at z5;have y51:w.heap.size<wr.heap.size+1:=dP;have y52:¬w.heap.size=wr.heap.size:=dP;cases hat:atomK v.kind with
      |false=>
       go_wp2_with fail;go_ret;exact⟨dZ (HBI.out (by rw[wZ,hat];rfl)).symm,q5⟩
      |true=>
      go_wp2_with fail;refine(Iz v.kind x _ hok).mono ?_;rintro e w6 ⟨rfl,Zu⟩;have q6:=ij q5 Zu;obtain⟨Wx,_⟩:=fY Zu;have z6:=Zu.size;have y61:w.heap.size<w5.heap.size:=dP;have y62:wr.heap.size<w5.heap.size:=dP;cases hio:itemOK v.kind x with
      |false=>
       go_wp2_with fail;go_ret;exact⟨dZ (HBI.out (by rw[wZ,hat,SB,hio];rfl)).symm,q6⟩
      |true=>
      rcases bz nl with n0|n0
      ·have d1:decide ((0:Int)<(nl:Int))=false:=aK dP;have d2:decide (0<nl)=false:=aK dP;have HG:=aa (show wZ v x=true by rw[wZ,hat,SB,hio,HL5.out,aM n0];rfl);clear n0;go_wp2_with fail;go_roundw
       case rel=>exact⟨k+1,by omega,by go_num,iY HX.out HF.out HG.out,ij (ij (Below.alloc hb hb.size _) Is) Zu⟩
       case measure=>simp [intOf];omega
      ·have d1:decide ((0:Int)<(nl:Int))=true:=aM dP;have d2:decide (0<nl)=true:=aM dP;go_wp2_with fail;refine(kJ x _).mono ?_;rintro e w7 ⟨rfl,hb7⟩;have q7:=ij q6 hb7;obtain⟨Wy,_⟩:=fY hb7;have y71:w.heap.size<w6.heap.size:=dP;have y72:wr.heap.size<w6.heap.size:=dP;have hb8:=ij (ij (ij (Below.alloc hb hb.size _) Is) Zu) hb7;cases hmi:eI x with
       |true=>
        have HG:=aa (show wZ v x=true by rw[wZ,hat,SB,hio,hmi];simp);go_wp2_with fail;go_roundw
        case rel=>exact⟨k+1,by omega,by go_num,iY HX.out HF.out HG.out,hb8⟩
        case measure=>simp [intOf];omega
       |false=>
        have HG:=aa (show wZ v x=decide (x.den=1/\1<=x.num/\x.num<=(nl:Int)) by rw[wZ,hat,SB,hio,hmi,HL5.out,aK (show ¬nl=0 by omega)];rfl);by_cases hin:x.den=1/\1<=x.num/\x.num<=(nl:Int)
        ·have HT:=aa (show wZ v x=true by rw[HG.out];exact aM hin);have t1:(x.den != 1)=false:=by simpa using hin.1
         have t2:decide (x.num<1)=false:=aK dP;have t3:decide ((nl:Int)<x.num)=false:=aK dP;clear hin;go_wp2_with fail;go_roundw
         case rel=>exact⟨k+1,by omega,by go_num,iY HX.out HF.out HT.out,hb8⟩
         case measure=>simp [intOf];omega
        ·have HT:=aa (HBI.out (by rw[HG.out];exact aK hin));have HIn:=aa hin;clear hin;go_wp2_with fail;all_goals first|(go_ret;exact⟨dZ HT.out.symm,q7⟩)|(exfalso;apply HIn.out;omega)
     ·obtain rfl:k=ni:=dP;have HR:=aa (show h_ v=true by have h1:=HF.out;rw[aC (by rw[OQ.out];omega)]at h1;rw[h_,HA.out,HN.out,HCt.out,h1];rfl)
      go_wp2_with fail;go_ret;exact⟨dZ HR.out.symm,qr⟩
end Go.Proofs.YtekcpadlmfaihaaGreat
