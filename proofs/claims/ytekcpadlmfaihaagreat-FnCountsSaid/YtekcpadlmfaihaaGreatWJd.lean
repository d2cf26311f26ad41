/- spec.NumberVector, for positions. -/
import Derived.Test.YtekcpadlmfaihaaGreatWDtCell
import Derived.Test.YtekcpadlmfaihaaGreatWMeg
import Derived.Test.YtekcpadlmfaihaaGreatWFb
import Derived.Test.YtekcpadlmfaihaaGreatWHe
namespace Go.Proofs.YtekcpadlmfaihaaGreat
open Go.RowKit Proofs.Tryz
set_option maxHeartbeats 8000000
set_option maxRecDepth 100000
set_option linter.unusedSimpArgs false
set_option linter.unusedVariables false
variable {frm tk:Int} {x:Item} {l:List Str}
theorem vY (l:List Int) (jb:∀y∈l,1<=y/\y<=40) (A:Option Addr) (n c:Nat) (w:World) (h:rep w w.heap.size (.sl (l.map (D.i .i64))) [.slice A n c]) (hn:(n:Int)<=40):Calls prog 54 #[.slice A n c] w (gM (nU l).toD 38 w):=by
 obtain⟨A',n',c',he,Nh,hnm,hr,-⟩:=(qy _ _ _ _).1 h;injection he with he;injection he with f1 f2 f3;subst f1 f2 f3
 have HL:=aa hr.len;have HA:=aa jb;clear jb;have O6:Below w.heap.size w ((w.alloc (.cells #[.int .i64 0,(),(),(),(),(),.int .i64 0,.int .i64 0] 38)).alloc (.cells #[.int .i64 2,(),(),(),(),(),.int .i64 0,.int .i64 0] 38)):=((Below.refl _ _).alloc (af _) _).alloc dR _;have kR0:Blk ((w.alloc (.cells #[.int .i64 0,(),(),(),(),(),.int .i64 0,.int .i64 0] 38)).alloc (.cells #[.int .i64 2,(),(),(),(),(),.int .i64 0,.int .i64 0] 38)) w.heap.size 38 [.int .i64 0,(),(),(),(),(),.int .i64 0,.int .i64 0]:=(Blk.new' (l:=[.int .i64 0,.slice none 0 0,.slice none 0 0,.slice none 0 0,.slice none 0 0,.slice none 0 0,.int .i64 0,.int .i64 0])).al;have k30:Blk ((w.alloc (.cells #[.int .i64 0,(),(),(),(),(),.int .i64 0,.int .i64 0] 38)).alloc (.cells #[.int .i64 2,(),(),(),(),(),.int .i64 0,.int .i64 0] 38)) (w.heap.size+1) 38 [.int .i64 2,(),(),(),(),(),.int .i64 0,.int .i64 0]:=Gs;go_enter func54,ntmps54;go_wp2_with fail;obtain⟨W,hW⟩:∃W,W=((w.alloc (.cells #[.int .i64 0,(),(),(),(),(),.int .i64 0,.int .i64 0] 38)).alloc (.cells #[.int .i64 2,(),(),(),(),(),.int .i64 0,.int .i64 0] 38)):=⟨_,rfl⟩;rw[<-hW]at O6 kR0 k30 ⊢;clear hW;go_loopw [4] (λi wr=>∃(j:Nat) (Aq:Option Addr) (cq:Nat) (Fq:List Nat),j<=n/\i= .int .i64 j/\Blk wr w.heap.size 38 [.int .i64 0,(),(),(),(),(),.int .i64 0,.int .i64 0]/\Blk wr (w.heap.size+1) 38 [.int .i64 2,.slice Aq j cq,(),(),(),(),.int .i64 0,.int .i64 0]/\own prog wr (.sl (((l.take j).map l_).map Item.toD)) 35 Fq [.slice Aq j cq]/\Fresh (w.heap.size+1+1) Fq/\Below w.heap.size w wr) (λi _=>n - (intOf i).toNat)
 case atStart=>exact⟨0,none,0,[],by omega,rfl,kR0,k30,kY underlying35,Fresh.nil,O6⟩
 case round=>
  clear kR0 k30 O6;obtain⟨j,Aq,cq,Fq,hj,rfl,kR,k3,oq,qL,bel⟩:=hrel;have hwr:w.heap.size+1<wr.heap.size:=k3.lt;by_cases hlj:j<n
  ·obtain⟨b,off,y,rfl,gD,hy,R9⟩:=hr.atI hlj;obtain⟨WF,Ya⟩:=HA.out y (aA hy);have HX:=aa hy;have hcy:=(bel.cell (p:=⟨b,off+j,none⟩) gD).trans R9;have j0:(0:Int)<=(j:Int):=dP;have j1:(j:Int)<(n:Int):=dP;clear hy;go_wp2_with fail;refine bu ?_;refine aW (S:=λV=>V.cell? ⟨b,off+j,none⟩=some (.int .i64 y)) dU hcy (λhH=>?_);replace kR:=kR.dw;replace k3:=k3.dw;replace oq:=gX oq;replace bel:=bel.drew;have abE:w.heap.size+1<wr.drew.heap.size:=hwr;have XH:wr.drew.cell? ⟨b,off+j,none⟩=some (.int .i64 y):=hcy;have SX:=(show wr.drew.cell? ⟨b,off+j,none⟩=some (.int .i64 y) from XH);generalize wr.drew=v0 at kR k3 oq bel abE XH SX ⊢;have cv0:=k3.cell 1;simp only[ah,ag]at cv0;refine ey 0 ?_;refine ey 2 ?_;refine ey 3 ?_;refine ey 4 ?_;refine ey 5 ?_;refine dG (rs:=[1,6]) dU dR (λi hi=>?_);simp only[aX,df,ce]at hi;rcases hi with rfl|rfl;all_goals refine dD gO (λK hK=>?_)
   ·go_simp;refine hK _ _ ⟨SX,?_⟩;refine iW ?_;refine fZ 6 ?_;intro K hK;go_simp;go_at_call 126;refine(xD y WF Ya _).mono ?_;rintro e w3 ⟨rfl,lE⟩;have z3:=lE.size;have Yf:=kR.next lE;have CC:=k3.next lE;have ZY:=em oq lE;have x4:Below w3.heap.size w3 (w3.alloc (.cells #[.int .i64 y,.int .i64 1,sv []] 135)):=(Below.refl _ _).alloc (af _) _;have kn4:Blk (w3.alloc (.cells #[.int .i64 y,.int .i64 1,sv []] 135)) w3.heap.size 135 [.int .i64 y,.int .i64 1,sv []]:=Blk.new' (l:=[.int .i64 y,.int .i64 1,sv []]);have Jm:=CC.cell 1;simp only[ah,ag]at Jm;have Jn:=(CC.next x4).cell 1;simp only[ah,ag]at Jn;have XG:=(bel.trans (lE.mono bel.size)).cell (p:=⟨b,off+j,none⟩) gD |>.trans R9
    have Uq:=(bel.trans ((ij lE x4).mono bel.size)).cell (p:=⟨b,off+j,none⟩) gD |>.trans R9
    have KG:=ij bel lE;refine hK _ _ ⟨XG,?_⟩;refine iW ?_;refine fZ 7 ?_;intro K hK;go_simp;refine hK _ _ ⟨Uq,?_⟩;refine iW ?_;refine fZ 8 ?_;intro K hK;refine gL (A:=Aq) (n:=j) (c:=cq) (b:=w3.heap.size) (m:=1) (xs:=((l.take j).map l_).map Item.toD) (F:=Fq) (d:=(l_ y).toD) (F':=[]) (te:=135) (cs:=[.int .i64 y,.int .i64 1,sv []]) kM ?_ ?_ (.tmp 18) (.tmp 24) ?_ ?_ ?_ ?_ ?_ ?_ ?_ ?_ ?_ ?_ ?_
    ·kernel_rfl
    ·rfl
    ·rfl
    ·rfl
    ·exact lz
    ·rfl
    ·exact kn4
    ·exact pI
    ·rfl
    ·exact lw
    ·exact g8
    ·omega
    intro gg gc w5 F5 o5 ap5 md5;simp only[dT]at ap5;have U8:=Blk.mod (g:=w.heap.size) (Yf.next x4) md5 (qL.notin dP);have vB:=Blk.mod (g:=w.heap.size+1) (CC.next x4) md5 (qL.notin dP);have z5:=md5.size;simp only[dT]at z5;have uW:=jN (ij KG x4) md5 (λy hy=>by have:=qL.2 y hy;omega) eA;have pU:=vB.cell 1;simp only[ah,ag]at pU;have Zr:=vB.frozen 1;have UL:w.heap.size+1<w5.heap.size:=vB.lt;have M7:=uW.cell (p:=⟨b,off+j,none⟩) gD |>.trans R9
    refine hK _ _ ⟨M7,?_⟩;refine iW ?_;have SX2:=(show _ from M7);refine ey 9 ?_;refine fZ 10 ?_;intro K hK;go_simp;have Ur:=(uW.setCell (p:=⟨w.heap.size+1,1,none⟩) kt (.slice (some ⟨gg,0,none⟩) (j+1) gc)).cell (p:=⟨b,off+j,none⟩) gD |>.trans R9
    refine hK _ _ ⟨Ur,?_⟩;refine iW ?_;refine bv dU ?_ _;refine ba ?_;clear Jm Jn pU;go_wp2_with fail;go_roundw
    case rel=>
     have Tt:∀y∈F5,y∈Fq\/w.heap.size+1+1<=y:=λy hy=>pF;have MU:∀y∈F5,w.heap.size+1+1<=y:=λy hy=>pG;refine⟨j+1,some ⟨gg,0,none⟩,gc,F5,by omega,by go_num,Blk.pk (p:=⟨w.heap.size+1,1,none⟩) iT U8,vB.set_ 1 _,?_,⟨ap5.1,MU⟩,uW.setCell kt _⟩;rw[eJ HX.out,aI,aI];exact ft o5 (λhm=>by have:=MU _ hm;simp at this;omega)
    case measure=>simp [intOf];omega
   ·
    go_simp;go_at_call 126;refine(xD y WF Ya _).mono ?_;rintro e w3 ⟨rfl,lE⟩;have z3:=lE.size;have Yf:=kR.next lE;have CC:=k3.next lE;have ZY:=em oq lE;have x4:Below w3.heap.size w3 (w3.alloc (.cells #[.int .i64 y,.int .i64 1,sv []] 135)):=(Below.refl _ _).alloc (af _) _;have kn4:Blk (w3.alloc (.cells #[.int .i64 y,.int .i64 1,sv []] 135)) w3.heap.size 135 [.int .i64 y,.int .i64 1,sv []]:=Blk.new' (l:=[.int .i64 y,.int .i64 1,sv []]);have Jm:=CC.cell 1;simp only[ah,ag]at Jm;have Jn:=(CC.next x4).cell 1;simp only[ah,ag]at Jn;have XG:=(bel.trans (lE.mono bel.size)).cell (p:=⟨b,off+j,none⟩) gD |>.trans R9
    have Uq:=(bel.trans ((ij lE x4).mono bel.size)).cell (p:=⟨b,off+j,none⟩) gD |>.trans R9
    have KG:=ij bel lE;refine hK _ _ ⟨XG,?_⟩;refine iW ?_;refine dG (rs:=[1,7]) dU dR (λi hi=>?_);simp only[aX,df,ce]at hi;rcases hi with rfl|rfl;all_goals refine dD gO (λK hK=>?_)
    ·go_simp;refine hK _ _ ⟨XG,?_⟩;refine iW ?_;refine fZ 7 ?_;intro K hK;go_simp;refine hK _ _ ⟨Uq,?_⟩;refine iW ?_;refine fZ 8 ?_;intro K hK;refine gL (A:=Aq) (n:=j) (c:=cq) (b:=w3.heap.size) (m:=1) (xs:=((l.take j).map l_).map Item.toD) (F:=Fq) (d:=(l_ y).toD) (F':=[]) (te:=135) (cs:=[.int .i64 y,.int .i64 1,sv []]) kM ?_ ?_ (.tmp 18) (.tmp 24) ?_ ?_ ?_ ?_ ?_ ?_ ?_ ?_ ?_ ?_ ?_
     ·kernel_rfl
     ·rfl
     ·rfl
     ·rfl
     ·exact lz
     ·rfl
     ·exact kn4
     ·exact pI
     ·rfl
     ·exact lw
     ·exact g8
     ·omega
     intro gg gc w5 F5 o5 ap5 md5;simp only[dT]at ap5;have U8:=Blk.mod (g:=w.heap.size) (Yf.next x4) md5 (qL.notin dP);have vB:=Blk.mod (g:=w.heap.size+1) (CC.next x4) md5 (qL.notin dP);have z5:=md5.size;simp only[dT]at z5;have uW:=jN (ij KG x4) md5 (λy hy=>by have:=qL.2 y hy;omega) eA;have pU:=vB.cell 1;simp only[ah,ag]at pU;have Zr:=vB.frozen 1;have UL:w.heap.size+1<w5.heap.size:=vB.lt;have M7:=uW.cell (p:=⟨b,off+j,none⟩) gD |>.trans R9
     refine hK _ _ ⟨M7,?_⟩;refine iW ?_;have SX2:=(show _ from M7);refine ey 9 ?_;refine fZ 10 ?_;intro K hK;go_simp;have Ur:=(uW.setCell (p:=⟨w.heap.size+1,1,none⟩) kt (.slice (some ⟨gg,0,none⟩) (j+1) gc)).cell (p:=⟨b,off+j,none⟩) gD |>.trans R9
     refine hK _ _ ⟨Ur,?_⟩;refine iW ?_;refine bv dU ?_ _;refine ba ?_;clear Jm Jn pU;go_wp2_with fail;go_roundw
     case rel=>
      have Tt:∀y∈F5,y∈Fq\/w.heap.size+1+1<=y:=λy hy=>pF;have MU:∀y∈F5,w.heap.size+1+1<=y:=λy hy=>pG;refine⟨j+1,some ⟨gg,0,none⟩,gc,F5,by omega,by go_num,Blk.pk (p:=⟨w.heap.size+1,1,none⟩) iT U8,vB.set_ 1 _,?_,⟨ap5.1,MU⟩,uW.setCell kt _⟩;rw[eJ HX.out,aI,aI];exact ft o5 (λhm=>by have:=MU _ hm;simp at this;omega)
     case measure=>simp [intOf];omega
    ·go_simp;refine hK _ _ ⟨Uq,?_⟩;refine iW ?_;refine fZ 1 ?_;intro K hK;go_simp;refine hK _ _ ⟨Uq,?_⟩;refine iW ?_;refine fZ 8 ?_;intro K hK;refine gL (A:=Aq) (n:=j) (c:=cq) (b:=w3.heap.size) (m:=1) (xs:=((l.take j).map l_).map Item.toD) (F:=Fq) (d:=(l_ y).toD) (F':=[]) (te:=135) (cs:=[.int .i64 y,.int .i64 1,sv []]) kM ?_ ?_ (.tmp 18) (.tmp 24) ?_ ?_ ?_ ?_ ?_ ?_ ?_ ?_ ?_ ?_ ?_
     ·kernel_rfl
     ·rfl
     ·rfl
     ·rfl
     ·exact lz
     ·rfl
     ·exact kn4
     ·exact pI
     ·rfl
     ·exact lw
     ·exact g8
     ·omega
     intro gg gc w5 F5 o5 ap5 md5;simp only[dT]at ap5;have U8:=Blk.mod (g:=w.heap.size) (Yf.next x4) md5 (qL.notin dP);have vB:=Blk.mod (g:=w.heap.size+1) (CC.next x4) md5 (qL.notin dP);have z5:=md5.size;simp only[dT]at z5;have uW:=jN (ij KG x4) md5 (λy hy=>by have:=qL.2 y hy;omega) eA;have pU:=vB.cell 1;simp only[ah,ag]at pU;have Zr:=vB.frozen 1;have UL:w.heap.size+1<w5.heap.size:=vB.lt;have M7:=uW.cell (p:=⟨b,off+j,none⟩) gD |>.trans R9
     refine hK _ _ ⟨M7,?_⟩;refine iW ?_;have SX2:=(show _ from M7);refine ey 9 ?_;refine fZ 10 ?_;intro K hK;go_simp;have Ur:=(uW.setCell (p:=⟨w.heap.size+1,1,none⟩) kt (.slice (some ⟨gg,0,none⟩) (j+1) gc)).cell (p:=⟨b,off+j,none⟩) gD |>.trans R9
     refine hK _ _ ⟨Ur,?_⟩;refine iW ?_;refine bv dU ?_ _;refine ba ?_;clear Jm Jn pU;go_wp2_with fail;go_roundw
     case rel=>
      have Tt:∀y∈F5,y∈Fq\/w.heap.size+1+1<=y:=λy hy=>pF;have MU:∀y∈F5,w.heap.size+1+1<=y:=λy hy=>pG;refine⟨j+1,some ⟨gg,0,none⟩,gc,F5,by omega,by go_num,Blk.pk (p:=⟨w.heap.size+1,1,none⟩) iT U8,vB.set_ 1 _,?_,⟨ap5.1,MU⟩,uW.setCell kt _⟩;rw[eJ HX.out,aI,aI];exact ft o5 (λhm=>by have:=MU _ hm;simp at this;omega)
     case measure=>simp [intOf];omega
  ·obtain rfl:j=n:=dP;rw[aC ws]at oq;obtain⟨a0,a1,a2,a3,a4,a5,a6,a7⟩:=k3.c8;obtain⟨r0,r1,r2,r3,r4,r5,r6,r7⟩:=kR.c8;have zr:=λi=>kR.frozen i;have Tq:=zr 0;have zr1:=zr 1;have zr2:=zr 2;have zr3:=zr 3;have zr4:=zr 4;have zr5:=zr 5;have zr6:=zr 6;have zr7:=zr 7;have XB:w.heap.size<wr.heap.size:=dP;clear zr;go_wp2_with fail;refine bM (v:= .agg #[.int .i64 2,.slice Aq j cq,(),(),(),(),.int .i64 0,.int .i64 0]) (by simp [results,results54,go_sem,r0,r1,r2,r3,r4,r5,r6,r7,XB]) rfl ⟨_,Fq++([]++([]++([]++([]++[])))),rfl,?_,?_,?_⟩
   ·exact Gz
   ·simpa using qL.mono dP
   ·exact mg
theorem SG (x:Int) (w:World):Calls prog 167 #[x] w λe w'=>e= .returned (Me ⟨x,1,[]⟩)/\Below w.heap.size w w':=by
 go_enter func167,ntmps167;go_wp2_with fail;refine bM (v:=Me ⟨x,1,[]⟩) (by simp [results,results167,go_sem]) rfl ⟨rfl,?_⟩
 (repeat'(first|with_reducible assumption|with_reducible exact Below.refl _ _|with_reducible refine jR ?_|with_reducible refine gT ?_ ?_|with_reducible refine ie ?_ ?_|with_reducible refine gR ?_ dY ?_|((try simp only[dW,dT,dX]);omega)))
theorem Ol (l:List Str):lenV (iA l)=l.length:=by simp [lenV,iA]
theorem Qm (l:List Str):jF (iA l)=l.length:=by rw[jU,Ol];rfl
theorem YY (hn:l.length<=40) (hl:∀x∈l,x.length<=60):isVec (iA l)=true:=by
 have h1:h_ (iA l)=true:=by
  unfold h_ CO IY P6;rw[Ol];have hi:(iA l).items.all (wZ (iA l))=true:=by rw[aV];intro x hx;obtain⟨s,hs,rfl⟩:=List.mem_map.1 hx;have:=hl s hs;simp [wZ,SB,atomK,itemOK,iA,sN,this]
  rw[hi];simp [iA,IZ,mF,vE,hn]
 unfold isVec;rw[okD,h1,Qm];simp [iA];omega
theorem YU {l:List D} {B:Nat} (h:∀d∈l,szD d<=B):gv l<=l.length*B:=Gw
theorem V7 (hn:l.length<=40) (hl:∀x∈l,x.length<=60):bigV (iA l):=by
 unfold bigV;rw[go];simp only[iA,bL,szD,gv,au,bf,List.map_map];have:gv (l.map (Item.toD∘sN))<=(l.map (Item.toD∘sN)).length*1000:=YU (λd hd=>by obtain⟨s,hs,rfl⟩:=List.mem_map.1 hd;have:=hl s hs;simp only[Function.comp,Item.toD,sN,szD,gv];omega)
 rw[au]at this;have h2:=dd 1000 hn;omega
theorem x9 (l:List Str) (A:Option Addr) (n c:Nat) (w:World) (hr:Reads encS 1 w w.heap.size A n l) (hn:(n:Int)<=40) (hl:∀x∈l,x.length<=60):
 Calls prog 129 #[.slice A n c] w (gM (iA l).toD 38 w):=by
 have acZ:=aa hr.len;have q0:=((Below.refl w.heap.size w).alloc (af _) (.cells Bj.toArray 38)).alloc eA (.cells #[.int .i64 3,(),(),(),(),(),.int .i64 0,.int .i64 0] 38);have k0:Blk (w.alloc (.cells Bj.toArray 38)) w.heap.size 38 Bj:=Blk.new';have k1:Blk ((w.alloc (.cells Bj.toArray 38)).alloc (.cells #[.int .i64 3,(),(),(),(),(),.int .i64 0,.int .i64 0] 38)) (w.heap.size+1) 38 [.int .i64 3,(),(),(),(),(),.int .i64 0,.int .i64 0]:=Gv;have HL:=aa hl;clear hl;go_enter func129,ntmps129;go_wp2_with fail;go_loopw [4] (λi wr=>tvL l w n i wr) (λi _=>n - (intOf i).toNat)
 case atStart=>exact⟨0,none,0,[],by omega,rfl,k1,k0.al,by rw[cL];exact o_ underlying35,Fresh.nil,q0⟩
 case round=>
  clear k0 k1 q0;obtain⟨k,Ao,co,FP,hk,rfl,kg,kz,oP,fr,bb⟩:=hrel;have z0:=kg.lt;by_cases hlt:k<n
  ·obtain⟨b,off,x,rfl,hb,hx,hc⟩:=(hr.below bb).at_ hlt;have h0:=hc 0 _ rfl;simp only[cu,cF]at h0;have abJ:=HL.out x (aA hx);have TD:¬(60:Int)<x.length:=dP;have HX:=aa (eJ hx);clear hc hx;have eg:=kg.cell 1;simp only[ah,ag]at eg;have zf:=kg.frozen 1;have lP:=gC oP;go_upto_region 5 with fail
   go_region_law (first
    |(go_simp;go_at_call 168;refine(t9 x _).mono ?_;rintro e w1 ⟨rfl,hb1⟩;obtain⟨hc1,hf1⟩:=fY hb1;have z1:=hb1.size;(try simp only[dW,dT,dX]at hc1 hf1 z1);have yg:w.heap.size+1<w1.heap.size:=by omega)
    |(refine gL (A:=Ao) (n:=k) (c:=co) (b:=w1.heap.size) (m:=1) (xs:=(l.take k).map λs=>(sN s).toD) (F:=FP) (d:=(sN x).toD) (F':=[]) (te:=135) (cs:=[.int .i64 0,.int .i64 1,sv x]) kM ?_ ?_ (.tmp 18) (.tmp 24) ?_ ?_ ?_ ?_ ?_ ?_ ?_ ?_ ?_ ?_ ?_;(kernel_rfl);(rfl);(rfl);(rfl);(focus (repeat'(first|with_reducible assumption|with_reducible refine gX ?_|with_reducible refine fK ?_|with_reducible refine ft ?_ ?_|with_reducible exact fS|with_reducible refine fR ?_ ?_|(with_reducible refine Fresh.notin dY ?_;((try simp only[dW,dT,dX]);omega))|(with_reducible refine Lo.notin dY ?_;((try simp only[dW,dT,dX]);omega))|with_reducible refine em ?_ dY)));(rfl);(focus (repeat'(first|with_reducible assumption|with_reducible exact Blk.new'|with_reducible exact Blk.newd|with_reducible apply Blk.set8|(with_reducible refine Blk.pk ?_ ?_;((try simp only[dW,dT,dX]);omega))|with_reducible refine Blk.dw ?_|with_reducible refine Blk.al ?_|with_reducible refine Blk.next ?_ dY)));(exact Rd abJ);(rfl);(rw[bP];exact fr.1);(unfold maxLen;omega);(omega);intro gg cc w2 Ku TG KD rN;have kg2:=Blk.mod (t:=38) (cs:=[.int .i64 3,.slice Ao k co,.slice none 0 0,.slice none 0 0,.slice none 0 0,.slice none 0 0,.int .i64 0,.int .i64 0]) (g:=w.heap.size+1) (by(repeat'(first|with_reducible assumption|with_reducible exact Blk.new'|with_reducible exact Blk.newd|with_reducible apply Blk.set8|(with_reducible refine Blk.pk ?_ ?_;((try simp only[dW,dT,dX]);omega))|with_reducible refine Blk.dw ?_|with_reducible refine Blk.al ?_|with_reducible refine Blk.next ?_ dY))) rN (fr.notin dP);have eg2:=kg2.cell 1;(simp only[ah,ag]at eg2);have zf2:=kg2.frozen 1))
   all_goals
    go_wp2_with fail;go_roundw
    case rel=>
     have z2:=rN.size;simp only[dW,dT,dX]at z2;have ng:w.heap.size+1 ∉ Ku:=KD.notin (C:=w.heap.size+2) (fr.notin dP) dR dP (by((try simp only[dW,dT,dX]);omega));refine⟨k+1,some ⟨gg,0,none⟩,cc,Ku,by omega,by go_num,kg2.set_ 1 _,?_,?_,?_,?_⟩
     ·exact GY
     ·exact yK
     ·exact Gx
     ·exact Hh
    case measure=>simp [intOf];omega
  ·obtain rfl:k=n:=dP;have hni:(k:Int)<=40:=hn;have oP0:=oP;rw[aC su]at oP;have e9:(iA l).items.map Item.toD=l.map λs=>(sN s).toD:=by simp [iA,Function.comp_def]
   rw[<-e9]at oP;have oV:own prog wr (iA l).toD 38 (FP++([]++([]++([]++([]++[]))))) [.int .i64 3,.slice Ao k co,(),(),(),(),.int .i64 0,.int .i64 0]:=jD (x:=iA l) Wa oP (o_ underlying36) (o_ underlying25) (o_ underlying25) (o_ underlying25) le le;have HV:=aa (YY (l:=l) su HL.out);have ga:=V7 (l:=l) su HL.out;clear e9 oP0;obtain⟨e0,e1,e2,e3,e4,e5,e6,e7⟩:=kg.c8;go_wp2_with fail;refine(ew (iA l) [.int .i64 3,.slice Ao k co,(),(),(),(),.int .i64 0,.int .i64 0] _ (eW _ _ _ _ oV) ga).mono ?_;rw[HV.out];rintro e w1 ⟨rfl,hb1⟩;clear e0 e1 e2 e3 e4 e5 e6 e7;have kg1:=kg.next hb1;have kz1:=kz.next hb1;have oV1:=em oV hb1;have bb1:=gR bb hb1 dP;have z1:=hb1.size;obtain⟨r0,r1,r2,r3,r4,r5,r6,r7⟩:=kz1.c8;have Cz:w.heap.size<w1.heap.size:=dP;obtain⟨e0,e1,e2,e3,e4,e5,e6,e7⟩:=kg1.c8;have zr:=λi=>kz1.frozen i;have Tq:=zr 0;have zr1:=zr 1;have zr2:=zr 2;have zr3:=zr 3;have zr4:=zr 4;have zr5:=zr 5;have zr6:=zr 6;have zr7:=zr 7;clear zr;go_wp2_with fail;refine bM (v:= .agg #[.int .i64 3,.slice Ao k co,(),(),(),(),.int .i64 0,.int .i64 0]) (by simp [results,results129,go_sem,r0,r1,r2,r3,r4,r5,r6,r7,Cz]) rfl ⟨_,FP++([]++([]++([]++([]++[])))),rfl,?_,?_,?_⟩
   ·have fn:w.heap.size ∉ FP++([]++([]++([]++([]++[])))):=by simpa using fr.notin dP
    repeat'(first|with_reducible assumption|with_reducible refine ft ?_ ?_)
   ·simpa using fr.mono dP
   ·exact mg
theorem RG (h:eI x=true\/frm=tk\/tk=2):gI frm tk x=x:=by unfold gI;rw[aN h]
theorem TX (h:¬(eI x=true\/frm=tk\/tk=2)) (h2:frm=2):gI frm tk x=sN (qq x):=by unfold gI;rw[aH h,aN h2]
theorem RH (h:¬(eI x=true\/frm=tk\/tk=2)) (h2:¬frm=2) (h3:x.num=1):gI frm tk x=sN [84,82,85,69]:=by unfold gI;rw[aH h,aH h2,aN h3]
theorem O3 (h:¬(eI x=true\/frm=tk\/tk=2)) (h2:¬frm=2) (h3:¬x.num=1):gI frm tk x=sN [70,65,76,83,69]:=by unfold gI;rw[aH h,aH h2,aH h3]
theorem Ce (x:Item) (frm tk:Int) (w:World):Calls prog 186 #[Me x,frm,tk] w λe w'=>e= .returned (Me (gI frm tk x))/\Below w.heap.size w w':=by
 have M:Mem prog w [] w []:=Mem.start;go_enter func186,ntmps186;refine Sq (Sa M (λJ1 wv M=>?_));refine Sa M (λJ2 wv M=>Sz (ae (Sq ?_)));refine Sb M [1] 1 ?_;refine Sc (aF (kJ x _) ?_);rintro e w' ⟨rfl,hb⟩;replace M:=M.next hb;refine Sp ?_;refine Sb M [] 1 ?_;refine So ((bif (eI x) then undef else .int .i64 frm)) (λK Z hK=>by rcases ac ((eI x)) with hg|hg<;>simp only[hg,ar,ak,aD,aB,az,aq,aj,am]at hK<;>go_simp<;>exact hK) ?_;refine So ((bif (eI x) then undef else .int .i64 tk)) (λK Z hK=>by rcases ac ((eI x)) with hg|hg<;>simp only[hg,ar,ak,aD,aB,az,aq,aj,am]at hK<;>go_simp<;>exact hK) ?_;refine So ((bif (eI x) then undef else .bool ((frm:Int)==(tk:Int)))) (λK Z hK=>by rcases ac ((eI x)) with hg|hg<;>simp only[hg,ar,ak,aD,aB,az,aq,aj,am]at hK<;>go_simp<;>exact hK) ?_;refine So (.bool ((eI x)||((frm:Int)==(tk:Int)))) (λK Z hK=>by rcases ac ((eI x)) with hg|hg<;>simp only[hg,ar,ak,aD,aB,az,aq,aj,am]at hK<;>go_simp<;>exact hK) ?_;refine Sb M [] 1 ?_;refine So ((bif ((eI x)||((frm:Int)==(tk:Int))) then undef else .int .i64 tk)) (λK Z hK=>by rcases ac (((eI x)||((frm:Int)==(tk:Int)))) with hg|hg<;>simp only[hg,ar,ak,aD,aB,az,aq,aj,am]at hK<;>go_simp<;>exact hK) ?_;refine So ((bif ((eI x)||((frm:Int)==(tk:Int))) then undef else .bool ((tk:Int)==(2:Int)))) (λK Z hK=>by rcases ac (((eI x)||((frm:Int)==(tk:Int)))) with hg|hg<;>simp only[hg,ar,ak,aD,aB,az,aq,aj,am]at hK<;>go_simp<;>exact hK) ?_;refine So (.bool (((eI x)||((frm:Int)==(tk:Int)))||((tk:Int)==(2:Int)))) (λK Z hK=>by rcases ac (((eI x)||((frm:Int)==(tk:Int)))) with hg|hg<;>simp only[hg,ar,ak,aD,aB,az,aq,aj,am]at hK<;>go_simp<;>exact hK) (Sz ?_);refine lW (λh1=>?_) (λh1=>?_)
 ·rw[h1];replace h1:=aa h1;refine Sq (Sb M [1] 1 ?_);refine Ss M 0 (λwv M=>Sz (aO (fI ?_)));refine kN results186 M 0 ?_;exact⟨by rw[RG (by simpa [or_assoc]using h1.out)];try rfl,M.bel⟩
 ·rw[h1];replace h1:=aa h1;refine bd (dV (ae (Ra M [] ?_)));refine lW (λh2=>?_) (λh2=>?_)
  ·rw[h2];replace h2:=aa h2;refine Sq (Sb M [1] 1 ?_);refine Sc (aF (vr x _) ?_);rintro e w' ⟨rfl,hb⟩;replace M:=M.next hb;refine Sp ?_;refine Sc (aF (pm ((qq x)) _) ?_);rintro e w' ⟨rfl,hb⟩;replace M:=M.next hb;refine Sp ?_;refine Ss M 0 (λwv M=>Sz (aO (fI ?_)));refine kN results186 M 0 ?_;exact⟨by rw[TX (λhh=>by have q:=h1.out;simp at q;simp_all) qk];try rfl,M.bel⟩
  ·rw[h2];replace h2:=aa h2;refine bd (dV (ae (Ra M [1] ?_)));refine lW (λh3=>?_) (λh3=>?_)
   ·rw[h3];replace h3:=aa h3;refine Sq (Sc (aF (pm ([84,82,85,69]) _) ?_));rintro e w' ⟨rfl,hb⟩;replace M:=M.next hb;refine Sp ?_;refine Ss M 0 (λwv M=>Sz (aO (fI ?_)));refine kN results186 M 0 ?_;exact⟨by rw[RH (λhh=>by have q:=h1.out;simp at q;simp_all) qk (by simpa using h3.out)];try rfl,M.bel⟩
   ·rw[h3];replace h3:=aa h3;refine bd (dV (Sq (Sc (aF (pm ([70,65,76,83,69]) _) ?_))));rintro e w' ⟨rfl,hb⟩;replace M:=M.next hb;refine Sp ?_;refine Ss M 0 (λwv M=>Sz (aO ?_));refine kN results186 M 0 ?_;exact⟨by rw[O3 (λhh=>by have q:=h1.out;simp at q;simp_all) qk (by simpa using h3.out)];try rfl,M.bel⟩
theorem wK {v:Vec} {k:Int} (h:¬k=4):conv v k=⟨k,v.items.map (gI v.kind k),[],v.names,[],[],0,0⟩:=by unfold conv;rw[aH h]
theorem Ds (v:Vec) (k:Int) (cs:List Value) (w:World) (h:rep w w.heap.size v.toD cs) (hni:v.items.length<=40) (hnn:v.names.length<=40) (h5:¬v.kind=5) (h0:0<=v.kind) (hvk:v.kind<=k) (hk:k<4) (mT:∀x∈v.items,itOK (gI v.kind k x)):
 Calls prog 160 #[av cs,k] w (eH (conv v k).toD 38 (.bool true) w):=by
 obtain⟨Ai,ci,Ap,cp,An,cn,Ac,cc,Al,cl,rfl,wk,ri,rp,rn,rc,rl,wc,we⟩:=d_ h;have Qv:=aa mT;obtain⟨_,_,_,he,-,-,hri,-⟩:=(NS _ _ _ _).1 ri;injection he with he;injection he with e1 e2 e3;subst e1 e2 e3
 have q1:(v.kind==5)=false:=by simpa using h5
 have q2:decide (k<v.kind)=false:=dS;have q3:(k==4)=false:=dS;have Z3:(Lit.int .i64 k).wf=true:=kP.2 fP;have uL:=aa (show ¬k=4 by omega);clear mT;have M:Mem prog w [] w []:=Mem.start;go_enter func160,ntmps160;refine Sq (Sa M (λJ1 wv M=>?_));refine Sa M (λJ2 wv M=>?_);refine Sb M [] 1 (Sz (Sq ?_));refine Sb M [1] 3 ?_;refine Sc (Ik (gJ v.names An _ cn _ (M.arg rn) dP) M λJ3 wv M=>Sp ?_);refine Sb M [] 1 ?_;refine Sa M (λJ4 wv M=>?_);refine Ss M 0 (λwv M=>Sz (ae ?_));refine Ra M [3] ?_;refine gk (ae ?_);refine Ra M [3] ?_;refine gk (ae ?_);refine Ra M [] ?_;refine gk (ae ?_);refine Ra M [3] (aJ ?_);refine fy (ι:=Nat × Option Addr × Nat) [12,73,74,75,76,77,78,79,80,81,82,83,84,85,86] (λfu=>match fu with|(j,Ao,co)=>[(72,.int .i64 (j:Nat))]) (λfu=>match fu with|(j,Ao,co)=>j<=v.items.length) (λfu=>match fu with|(j,Ao,co)=>[.ow (.sl (((v.items.take j).map (gI v.kind k)).map Item.toD)) 35 [.slice Ao j co],.ow (.sl (v.names.map D.s)) 25 [.slice J3.a v.names.length J3.c],.bk (J4.b) 38 [k,.slice Ao j co,(),.slice J3.a v.names.length J3.c,(),(),.int .i64 0,.int .i64 0],.bk (J2.b) 38 [.int .i64 0,(),(),(),(),(),.int .i64 0,.int .i64 0],.bk (J1.b) 38 [v.kind,.slice Ai v.items.length ci,.slice Ap v.parts.length cp,.slice An v.names.length cn,.slice Ac v.cls.length cc,.slice Al v.levels.length cl,v.code,v.env]]) (λfu=>match fu with|(j,Ao,co)=>v.items.length - j) (0,none,0) dP ((M.nil (t:=35) underlying35).sel [0,2,1,3,4] dQ) ?_;rintro⟨j,Ao,co⟩ Mf W1 K1 h1 M rH;try dsimp only at h1 M ⊢
 refine uM ?_;refine Ra M [] (ae ?_);refine lW (λhlt=>?_) (λhlt=>?_)
 ·rw[hlt];replace hlt:=aa hlt;have hlj:j<v.items.length:=ko;obtain⟨b,off,x,rfl,gD,hx,c0,c1,c2⟩:=hri.at3 hlj;replace hx:=aa hx;have mT:=Qv.out x (aA hx.out);have j0:(0:Int)<=(j:Int):=dP;have j1:(j:Int)<(v.items.length:Int):=dP;refine bd (dV (ae (aJ (Sq (Sb M [] 1 ?_)))));refine Sf (show W1.cell? ⟨b,off+j*3,none⟩=some (.int .i64 x.num)/\W1.cell? ⟨b,off+j*3+1,none⟩=some (.int .i64 x.den)/\W1.cell? ⟨b,off+j*3+2,none⟩=some (sv x.text) from⟨(M.bel.cell gD).trans c0,(M.bel.cell gD).trans c1,(M.bel.cell gD).trans c2⟩) ?_;refine Sa M (λJ5 wv M=>?_);refine Ss M 0 (λwv M=>Sz ?_);refine CJ (M.sel [0,1,3,5,2,4] dQ) [none,some 8,some 10,none] [.o (J4.b) 1,.l 2 1,.la 0,.o (J1.b) 0,.l 3 0,.i (k),.v (.c (.agg #[.int .i64 (gI v.kind k x).num,.int .i64 (gI v.kind k x).den,sv (gI v.kind k x).text])),.v (.e 7 (λMg=> .slice (some ⟨Mg.b,0,none⟩) 1 1)),.v (vA 8 (j+1)),.p 8,.u] [.b 7 none 135 6,.e 8 none (oA 8 (.sl ((((v.items.take j).map (gI v.kind k)).map Item.toD)++[(gI v.kind k x).toD])) 35 (j+1)),.s 10 none 2 [(1,vA 8 (j+1))]] [[],[2],[0],[],[3],[],[],[],[4],[],[]] [] ?_ ?_
  ·show ∀i,i<11->_;refine On (On ?_ eh) (vI [2] [6] 1);refine On ?_ (tn [1] [5] [4] (h:=λγ wv R K M hK=>by have M:=M.item mT;exact mG (((M.pull 2 rfl).pull 1 rfl).pull 2 rfl) kM dU rfl (.tmp 77) (.tmp 83) rfl rfl rfl rfl eb dP λg c' w' M'=>hK (R3 g c') w' M'))
   refine On ?_ (kX [4]);refine On ?_ (tn [] [] [] (h:=λγ wv R K M hK=>by go_simp;go_at_call 186;exact f_ (Ce x v.kind k _) M hK))
   exact On (On (On (On (On (On Oz eh) (e_ [2] 1)) (ZX [0])) eh) (e_ [3] 0)) eB
  intro Ho wv M;replace M:Mem _ _ _ _ [_,_,.bk _ _ [_,_,_],.ow _ _ _,.bk _ _ [_,_,_,_,_,_,_,_],_,_]:=M;refine fA (dV (Rb M [] (dV ?_)));exact rH (j+1,(some ⟨(Ho 8).b,0,none⟩),(Ho 8).c) _ _ dU (by(try dsimp only);omega) (by(try dsimp only);omega) (by(try dsimp only);rw[eJ hx.out,aI,aI];exact M.sel [3,5,4,6,1] dQ)
 ·rw[hlt];replace hlt:=aa hlt;obtain rfl:j=v.items.length:=ko;refine bo (es (es (fT (dV (Sq (Sb M [2] 1 ?_))))));refine Ss M 3 (λwv M=>?_);refine Sb M [] 1 (Sz (aO ?_));refine kN results160 M 3 ?_;have MZ:=M.sel [0,1] dQ;simp only[lH,bH,bY,ah,ag,cC]at MZ;have MZ:=(((MZ.nil (t:=25) underlying25).nil (t:=25) underlying25).nil (t:=36) underlying36);replace MZ:=MZ.up [4,1,4];rw[wK uL.out];exact(Mem.joinVec (v:=⟨k,v.items.map (gI v.kind k),[],v.names,[],[],0,0⟩) MZ Z3 le le).retTwo
theorem Mu:(prog.info? 4).map (λi=>(i.zero,i.size,i.bytes))=some (some (.bool false),1,1):=dU
theorem AX (n:Nat) (hn:(n:Int)<=40) (y:Int) (h1:1<=y) (h2:y<=40) (ab ao c:Nat) (w:World) (K7:ab<w.heap.size) (e0:w.cell? ⟨ab,ao,none⟩=some (.int .i64 y)) (e1:w.cell? ⟨ab,ao+1,none⟩=some (.int .i64 1)) (e2:w.cell? ⟨ab,ao+2,none⟩=some (sv [])):
 Calls prog 182 #[.int .i64 (n:Nat),.slice (some ⟨ab,ao,none⟩) 1 c] w λe w'=>∃A m d,e= .returned (.tuple #[.slice A m d,sv []])/\∃F,own prog w' (.sl [D.i .i64 y]) 26 F [.slice A m d]/\Fresh w.heap.size F/\Below w.heap.size w w':=by
 obtain⟨i0,DI,rJ,tW,hz2⟩:=cZ Mu;have xx:=λW=>iw (P:=prog) 163 4 i0 _ underlying163 DI rJ .i64 .i64 (n+1) (n+1) (af _) jj dP W
 push_cast at xx
 have hwy:(Lit.int .i64 y).wf=true:=kP.2 fP;have q1:decide (y< -40)=false:=dS;have q2:decide (40<y)=false:=dS;have q3:decide (0<y)=true:=dS;have HMS:=aa (show eI ⟨y,1,[]⟩=false by simp [eI]);have M:Mem prog w [] w []:=Mem.start;go_enter func182,ntmps182;refine Ra M [] ?_;refine Ra M [] ?_;refine Ra M [] (Sq ?_);refine Sb M [] 2 ?_;refine Sx M 0 (λx=> .slice (some ⟨x.b,0,none⟩) (n+1) (n+1)) (λx=>[.bk (x.b) 4 (madeCells #[.bool false] (n+1)).toList]) (λK Z hK=>by go_simp;exact hK (mA w.heap.size) _ M.al) (λJ1 wv M=>?_)
 refine Sb M [] 1 (Sz (ae ?_));refine Ra M [] (aJ ?_);refine aZ 2 ?_;refine ez (Ra M [] (ae ?_));refine Hx (ae (aJ (Sq ?_)));refine Sb M [] 1 ?_;refine Sf (show wv.cell? ⟨ab,ao,none⟩=some (.int .i64 y)/\wv.cell? ⟨ab,ao+1,none⟩=some (.int .i64 1)/\wv.cell? ⟨ab,ao+2,none⟩=some (sv []) from⟨(M.bel.cell K7).trans e0,(M.bel.cell K7).trans e1,(M.bel.cell K7).trans e2⟩) ?_;refine Sa M (λJ2 wv M=>?_);refine Ss M 0 (λwv M=>Sz (ae (Sq ?_)));refine Sb M [0] 1 ?_;refine Sc (aF (kJ ⟨y,1,[]⟩ _) ?_);rintro e w' ⟨rfl,hb⟩;rw[HMS.out];replace M:=M.next hb;refine Sp (Sz ?_);refine gk (ae ?_);refine Ra M [0] ?_;refine gk (ae ?_);refine Ra M [0] ?_;refine gk (aJ ?_);refine Ra M [0] ?_;refine ct ?_;refine Ra M [] (Sg ?_);refine Sb M [0] 3 ?_;refine Sa M (λJ4 wv M=>?_);have M:=(M.int (t:=3) hwy).nil (t:=26) underlying26;refine nQ M rD (hn:=by decide) (h63:=by decide) (λJ5 wv M=>Sw ?_);replace M:=(M.pull 1 rfl |>.pull 1 rfl);replace M:=M.up [];refine Sb M [] 1 (Sy (fA (fA (dV ?_))));refine Rb M [] (dV (ez ?_));refine Ra M [] (ae ?_);refine cf (bo (es (es (fT (dV (ae ?_))))));refine Ra M [] ?_;refine ct ?_;refine Ra M [] (aO (fI ?_));refine vQ results182 ?_;exact⟨_,_,_,rfl,(M.sel [0] dQ).fin⟩
def ZR (x:Item):Str:=if x.num=1 then[84,82,85,69] else[70,65,76,83,69]
theorem abQ (h1:0<=x.num) (h2:x.num<2):([sv [70,65,76,83,69],sv [84,82,85,69]]:List Value)[x.num.toNat]?=some (sv (ZR x)):=by rcases(show x.num=0\/x.num=1 by omega) with h|h<;>simp [ZR,h]
theorem Yc {α:Type} {A:Bool->α} {x:Item}:(if x.num=0 then if x.den=0 then if x.text=[] then A true else A false else A false else A false)=A (eI x):=by
 cases x with
 |mk a b c=>
  rw[show eI ⟨a,b,c⟩=decide (a=0/\b=0/\c=[]) by rw[bg];simp [eI]];by_cases h1:a=0<;>by_cases h2:b=0<;>by_cases h3:c=[]<;>simp [h1,h2,h3]
def sI (frm tk:Int) (x:Item):Item:=if tk≠3\/frm=3\/eI x=true then x else if frm=1 then sN (ZR x) else sN (qq x)
theorem TY (h:tk≠3\/frm=3\/eI x=true):sI frm tk x=x:=by unfold sI;rw[aN h]
theorem W9 (h:¬(tk≠3\/frm=3\/eI x=true)) (h2:frm=1):sI frm tk x=sN (ZR x):=by unfold sI;rw[aH h,aN h2]
theorem W_ (h:¬(tk≠3\/frm=3\/eI x=true)) (h2:¬frm=1):sI frm tk x=sN (qq x):=by unfold sI;rw[aH h,aH h2]
theorem Dh (x:Item) (h1:1<=frm) (h2:frm<=tk) (h3:tk<=3):sI frm tk x=gI frm tk x:=by
 unfold sI gI ZR;rcases(show tk=1\/tk=2\/tk=3 by omega) with rfl|rfl|rfl
 ·obtain rfl:frm=1:=dP;simp
 ·simp
 ·rcases(show frm=1\/frm=2\/frm=3 by omega) with rfl|rfl|rfl<;>simp<;>(try split)<;>(try split)<;>simp_all
theorem Nw (x:Item) (frm tk:Int) (hn:frm=1->0<=x.num/\x.num<2) (w:World):Calls prog 166 #[frm,tk,Me x] w λe w'=>e= .returned (Me (sI frm tk x))/\Below w.heap.size w w':=by
 have HN:=aa hn;have HMI:=aa (show eI x=eI x from rfl);clear hn;have M:Mem prog w [] w []:=Mem.start;go_enter func166,ntmps166;refine Sq (Sa M (λJ1 wv M=>?_));refine Sa M (λJ2 wv M=>Sz (ae (Sq ?_)));refine Sb M [] 3 ?_;refine So ((bif ((tk:Int) != (3:Int)) then undef else .int .i64 frm)) (λK Z hK=>by rcases ac (((tk:Int) != (3:Int))) with hg|hg<;>simp only[hg,ar,ak,aD,aB,az,aq,aj,am]at hK<;>go_simp<;>exact hK) ?_;refine So ((bif ((tk:Int) != (3:Int)) then undef else .bool ((frm:Int)==(3:Int)))) (λK Z hK=>by rcases ac (((tk:Int) != (3:Int))) with hg|hg<;>simp only[hg,ar,ak,aD,aB,az,aq,aj,am]at hK<;>go_simp<;>exact hK) ?_;refine So (.bool (((tk:Int) != (3:Int))||((frm:Int)==(3:Int)))) (λK Z hK=>by rcases ac (((tk:Int) != (3:Int))) with hg|hg<;>simp only[hg,ar,ak,aD,aB,az,aq,aj,am]at hK<;>go_simp<;>exact hK) ?_;refine Sb M [] 1 ?_;refine So ((bif (((tk:Int) != (3:Int))||((frm:Int)==(3:Int))) then undef else .agg #[x.num,x.den,sv x.text])) (λK Z hK=>by have hc:=(M.bl 1 rfl).cells;simp only[ju,Nat.reduceAdd]at hc;(repeat (obtain⟨c,hc⟩:=hc));rcases ac ((((tk:Int) != (3:Int))||((frm:Int)==(3:Int)))) with hg|hg<;>simp only[hg,ar,ak,aD,aB,az,aq,aj,am]at hK<;>go_simp<;>exact hK) ?_;refine So ((bif (((tk:Int) != (3:Int))||((frm:Int)==(3:Int))) then undef else .agg #[.int .i64 0,.int .i64 0,sv []])) (λK Z hK=>by rcases ac ((((tk:Int) != (3:Int))||((frm:Int)==(3:Int)))) with hg|hg<;>simp only[hg,ar,ak,aD,aB,az,aq,aj,am]at hK<;>go_simp<;>exact hK) ?_;replace M:=M.up [1];refine So ((bif (((tk:Int) != (3:Int))||((frm:Int)==(3:Int))) then undef else .bool (eI x))) (λK Z hK=>by
  have kB:=M.bl 0 rfl;have c0:wv.cell? _=some _:=kB.cell 0;have c1:wv.cell? _=some _:=kB.cell 1;have c2:wv.cell? _=some _:=kB.cell 2;clear kB M;rcases ac ((((tk:Int) != (3:Int))||((frm:Int)==(3:Int)))) with hg|hg<;>simp only[hg,aD,aB]at hK<;>go_simp
  ·exact hK
  ·rw[Yc (A:=λb=>Result.ok (Next.value (Value.bool b)) wv)];exact hK) ?_
 refine So (.bool ((((tk:Int) != (3:Int))||((frm:Int)==(3:Int)))||(eI x))) (λK Z hK=>by rcases ac ((((tk:Int) != (3:Int))||((frm:Int)==(3:Int)))) with hg|hg<;>simp only[hg,ar,ak,aD,aB,az,aq,aj,am]at hK<;>go_simp<;>exact hK) (Sz ?_);refine lW (λh1=>?_) (λh1=>?_)
 ·rw[h1];replace h1:=aa h1;refine Sq (Sb M [0] 1 ?_);refine Ss M 1 (λwv M=>Sz (aO (fI ?_)));refine kN results166 M 1 ?_;exact⟨by rw[TY (by have q:=h1.out;simpa [or_assoc]using q)];try rfl,M.bel⟩
 ·rw[h1];replace h1:=aa h1;refine bd (dV (ae (Ra M [] ?_)));refine lW (λh2=>?_) (λh2=>?_)
  ·rw[h2];replace h2:=aa h2;refine Sq (Sa M (λJ3 wv M=>?_));refine Sb M [1] 2 ?_;refine So (.pointer (some ⟨J3.b,x.num.toNat,none⟩)) (λK Z hK=>by obtain⟨z1,z2⟩:=HN.out (by have q:=h2.out;simpa using q);go_simp;exact hK) ?_
   refine So (sv (ZR x)) (λK Z hK=>by obtain⟨z1,z2⟩:=HN.out (by have q:=h2.out;simpa using q);have c:wv.cell? _=some (sv (ZR x)):=((M.bl 0 rfl).cell x.num.toNat).trans (abQ z1 z2);clear M;go_simp;exact hK) ?_
   refine Sc (aF (t9 ((ZR x)) _) ?_);rintro e w' ⟨rfl,hb⟩;replace M:=M.next hb;refine Sp ?_;refine Ss M 2 (λwv M=>Sz (aO (fI ?_)));refine kN results166 M 2 ?_;exact⟨by rw[W9 (λhh=>by have q:=h1.out;simp at q;simp_all) qk];try rfl,M.bel⟩
  ·rw[h2];replace h2:=aa h2;refine bd (dV (Sq (Sb M [0] 1 ?_)));refine Sc (aF (vX x _) ?_);rintro e w' ⟨rfl,hb⟩;replace M:=M.next hb;refine Sp ?_;refine Sc (aF (t9 ((qq x)) _) ?_);rintro e w' ⟨rfl,hb⟩;replace M:=M.next hb;refine Sp ?_;refine Ss M 1 (λwv M=>Sz (aO ?_));refine kN results166 M 1 ?_;exact⟨by rw[W_ (λhh=>by have q:=h1.out;simp at q;simp_all) qk];try rfl,M.bel⟩
def vD (f:Nat):Prop:=∀(h:Hp) (k:Int) (g:Nat) (F:List Nat) (w:World),HB w g h F->relOK f h k->Calls prog 58 #[.pointer (some ⟨g,0,none⟩),k] w λe w'=>e= .returned (.tuple #[])/\∃F',HB w' g (iD f h k) F'/\Sub w.heap.size F F'/\Mod (g::F) w w'
theorem IH (f:Nat) (ih:vD f):vD (f+1):=by
 intro h k g F w H jV;rw[relOK]at jV;obtain⟨hin,xe,zN⟩:=jV;obtain⟨i,x,rfl,hil,hx,ld⟩:=kU hin;rw[ld]at xe zN;rw[aU]at zN;have hrd:iD (f+1) h (i:Int)=if 0<x.count - 1 then eG h i (KP x) else x.parts.foldl (iD f) (eG h i lf):=by rw[iD,ld,aU]
 obtain⟨bc,nc,nd,An,nn,na,As,ns,nb,Fx,cx,pre,post,kB,hl,hm,ox,Ix,Zw,hp,hB,Po,qo,ZK,Zz,Lb⟩:=H.cell_ hx;obtain⟨Ei,ui,vi,Ep,up,vp,En,un,vn,Ec,uc,vc,El,ul,vl,Ez,uq,vq,G1,G2,G3,G4,G5,G6,rfl,hFx,q1,q2,q3,q4,q5,q6⟩:=jp ox;obtain⟨e0,e1,e2,e3,e4,e5,e6,e7,e8,e9⟩:=hB.e10 hp;obtain⟨f0,f1,f2,f3,f4,f5,f6,f7,f8,f9⟩:=hB.fr10 (m:=i*10);have hlq:=ef (eW _ _ _ _ q6);rw[au]at hlq;obtain⟨Ww,hb1⟩:=xe;have hlt:(i:Int)<(nc:Int):=dP;have i0:(0:Int)<=(i:Int):=dP;have JA:=H.lt;have hbs:bc<w.heap.size:=H.lo bc (aP _ Po);have HRD:=aa hrd;have xo:=aa ih;have HX:=aa hx;obtain⟨g0,g1,g2,g3⟩:=kB.c4;have HLQ:=aa hlq;have huq:(uq:Int)<=9223372036854775807:=by have:=hlq.2.2;unfold maxLen at this;omega
 have HL:=aa hl;clear hin ld hrd ih hx hlq hl hil q1 q2 q3 q4 q5;by_cases hpos:0<x.count - 1
 ·have HP:=aa hpos;have d1:decide (0<x.count - 1)=true:=by simpa using hpos
  go_enter func58,ntmps58;go_wp2_with fail;go_still_tail 16,dU;go_wp2_with fail;refine bM (v:= .tuple #[]) (by simp [results,results58,go_sem]) rfl ?_;rw[HRD.out,aN HP.out];have md:Mod (bc::Fx) w (w.setCell ⟨bc,i*10,none⟩ (.int .i64 (x.count - 1))).drew:=Mod.mono (F:=[bc]) (gU (Mod.poke (F:=[bc]) dR _) (Below.refl _ _).drew) dR;obtain⟨F',HF,xR⟩:=Lb _ (KP x) [.int .i64 (x.count - 1),x.value.kind,.slice Ei ui vi,.slice Ep up vp,.slice En un vn,.slice Ec uc vc,.slice El ul vl,x.value.code,x.value.env,.slice Ez uq vq] Fx rfl (fH (F:=[bc]) (Dm ox (kP.2 fP)) (gU (Mod.poke (F:=[bc]) dR _) (Below.refl _ _).drew) (λy hy hm=>qo (by simp at hm;subst hm;exact hy))) Ix (λy hy=> .inl hy) (Blk.put_ hB hp (j:=0) dR gO _).dw md;exact⟨rfl,F',HF,xR.sub (λy hy=> .inl (ZK y hy)),md.mono (λy hy=>aP _ se)⟩
 ·have DO:allOK (relOK f) (iD f) (eG h i lf) x.parts:=by rcases zN with h1|h1;exact absurd h1 hpos;exact h1
  have OR:=aa DO;have HP:=aa hpos;have d1:decide (0<x.count - 1)=false:=by simpa using hpos
  clear zN DO;go_enter func58,ntmps58;go_wp2_with fail;go_still_tail 16,dU;go_wp2_with fail;have Vi:Mod [bc] w (((((((((((w.setCell ⟨bc,i*10,none⟩ (.int .i64 (x.count - 1))).setCell ⟨bc,i*10,none⟩ (.int .i64 0)).setCell ⟨bc,i*10+1,none⟩ (.int .i64 0)).setCell ⟨bc,i*10+2,none⟩ (.slice none 0 0)).setCell ⟨bc,i*10+3,none⟩ (.slice none 0 0)).setCell ⟨bc,i*10+4,none⟩ (.slice none 0 0)).setCell ⟨bc,i*10+5,none⟩ (.slice none 0 0)).setCell ⟨bc,i*10+6,none⟩ (.slice none 0 0)).setCell ⟨bc,i*10+7,none⟩ (.int .i64 0)).setCell ⟨bc,i*10+8,none⟩ (.int .i64 0)).setCell ⟨bc,i*10+9,none⟩ (.slice none 0 0)).drew:=gU (iV (Mod.poke (F:=[bc]) dR _) (Q3 dR) (λ_ h=>h)) (Below.refl _ _).drew;have md:Mod (bc::Fx) w (((((((((((w.setCell ⟨bc,i*10,none⟩ (.int .i64 (x.count - 1))).setCell ⟨bc,i*10,none⟩ (.int .i64 0)).setCell ⟨bc,i*10+1,none⟩ (.int .i64 0)).setCell ⟨bc,i*10+2,none⟩ (.slice none 0 0)).setCell ⟨bc,i*10+3,none⟩ (.slice none 0 0)).setCell ⟨bc,i*10+4,none⟩ (.slice none 0 0)).setCell ⟨bc,i*10+5,none⟩ (.slice none 0 0)).setCell ⟨bc,i*10+6,none⟩ (.slice none 0 0)).setCell ⟨bc,i*10+7,none⟩ (.int .i64 0)).setCell ⟨bc,i*10+8,none⟩ (.int .i64 0)).setCell ⟨bc,i*10+9,none⟩ (.slice none 0 0)).drew:=Vi.mono dR;have hG6:∀y∈G6,y∈Fx:=λy hy=>by rw[hFx];simp [hy]
  have q6':=fH q6 Vi (λy hy hm=>qo (by simp at hm;subst hm;exact hG6 _ hy));obtain⟨F2,H2,TA⟩:=Lb _ lf [.int .i64 0,.int .i64 0,(),(),(),(),(),.int .i64 0,.int .i64 0,()] [] rfl (JY _) List.nodup_nil (λy hy=>by simp at hy) (Blk.put10 (Blk.put_ hB hp (j:=0) (o:=i*10) dR gO _) hp).dw md;have Bw:∀y∈G6,y ∉ g::F2:=λy hy hm=>GW;have aht:∀y∈G6,y<w.heap.size:=gC q6;obtain⟨W,hW⟩:∃W,W=(((((((((((w.setCell ⟨bc,i*10,none⟩ (.int .i64 (x.count - 1))).setCell ⟨bc,i*10,none⟩ (.int .i64 0)).setCell ⟨bc,i*10+1,none⟩ (.int .i64 0)).setCell ⟨bc,i*10+2,none⟩ (.slice none 0 0)).setCell ⟨bc,i*10+3,none⟩ (.slice none 0 0)).setCell ⟨bc,i*10+4,none⟩ (.slice none 0 0)).setCell ⟨bc,i*10+5,none⟩ (.slice none 0 0)).setCell ⟨bc,i*10+6,none⟩ (.slice none 0 0)).setCell ⟨bc,i*10+7,none⟩ (.int .i64 0)).setCell ⟨bc,i*10+8,none⟩ (.int .i64 0)).setCell ⟨bc,i*10+9,none⟩ (.slice none 0 0)).drew:=⟨_,rfl⟩;have zW:W.heap.size=w.heap.size:=by rw[hW];simp only[dX,dW]
  rw[<-hW]at md q6' H2 ⊢;clear hW Vi g0 g1 g2 g3 e0 e1 e2 e3 e4 e5 e6 e7 e8 e9 f0 f1 f2 f3 f4 f5 f6 f7 f8 f9 kB hB;go_loopw [5] (λv wr=>∃(j:Nat) (F':List Nat),j<=uq/\v= .int .i64 j/\HB wr g ((x.parts.take j).foldl (iD f) (eG h i lf)) F'/\Sub W.heap.size F2 F'/\Mod (g::F2) W wr) (λv _=>uq - (intOf v).toNat)
  case atStart=>exact⟨0,F2,by omega,rfl,H2,Sub.refl,Mod.refl⟩
  case round=>
   obtain⟨j,F',hj,rfl,Hj,sj,mj⟩:=hrel;by_cases hlj:j<uq
   ·obtain⟨A',n',c',he,-,-,hr,-⟩:=(qy _ _ _ _).1 (eW _ _ _ _ (fH q6' mj Bw));injection he with he;injection he with f1 f2 f3;subst f1 f2 f3
    obtain⟨b,off,y,rfl,gD,hy,xO⟩:=hr.atI hlj;have HY:=aa hy;clear hy hr;go_wp2_with fail;refine(xo.out _ y g F' wr Hj (qR OR.out HY.out)).mono ?_;rintro e w3 ⟨rfl,F3,H3,s3,m3⟩;go_wp2_with fail;go_roundw
    case rel=>exact⟨j+1,F3,by omega,by go_num,by rw[rT HY.out];exact H3,sj.trans s3 mj.size,nO mj m3 (kj sj) (af _)⟩
    case measure=>simp [intOf];omega
   ·obtain rfl:j=uq:=dP;go_wp2_with fail;refine bodyPost_end (v:= .tuple #[]) (by simp [results,results58,go_sem]) rfl ?_;rw[aC (by rw[HLQ.out.1];exact af _)]at Hj;rw[HRD.out,aH (by have:=HP.out;omega)];have s2:Sub w.heap.size F F2:=TA.sub (λy hy=>by simp at hy);exact⟨rfl,F',Hj,s2.trans sj dP,nO (md.mono (λy hy=>aP _ se)) mj (kj s2) dP⟩
theorem ro:∀f:Nat,vD f
 |0=>λh k g F w H jV=>by rw[relOK]at jV;exact jV.elim
 |f+1=>IH f (ro f)
theorem vC (h:Hp) (s:Str) (k:Int) (g:Nat) (F:List Nat) (w:World) (H:HB w g h F) (hs:s.length<=maxLen) (hk:(Lit.int .i64 k).wf=true) (hl:h.names.length=h.slots.length) (hn:(h.names.length:Int)<=1073741824)
 (hR:hasN h s=true->relOK 5 {h with slots:=h.slots.set (ix h.names s 0).toNat k} (slotD h s)):
 Calls prog 50 #[.pointer (some ⟨g,0,none⟩),sv s,k] w λe w'=>e= .returned (.tuple #[])/\∃F',HB w' g (fd h s k) F'/\Sub w.heap.size F F'/\Mod (g::F) w w':=by
 have JA:=H.lt;have XR:=H.lo;have sM:=H.nd;have mT:=pY h.names s 0;cases hb:hasN h s with
 |false=>
  have xe:fd h s k={h with names:=h.names++[s],slots:=h.slots++[k]}:=by unfold fd;rw[aH sk]
  obtain⟨Ac,nc,cc,An,nn,cn,As,ns,cs,Fc,Fn,Fs,kB,rfl,o1,o2,o3,wf⟩:=H.open_;have xf:=ef (eW _ _ _ _ o2);have hl3:=ef (eW _ _ _ _ o3);rw[au]at xf hl3;obtain⟨Ct,CE,Hw,he,-,-,hr,-⟩:=(ls _ _ _ _).1 (eW _ _ _ _ o2);injection he with he;injection he with f1 f2 f3;subst f1 f2 f3
  have R5:=gG An nn cn h.names s w hr dP;have h0:ix h.names s 0<0:=by simp only[hasN,bB]at hb;omega
  have hnn:(nn:Int)<=1073741824:=dP;have hns:(ns:Int)<=1073741824:=dP;have TN:=aa xe;obtain⟨g0,g1,g2,g3⟩:=kB.c4;have fz1:=kB.frozen 1;have fz2:=kB.frozen 2;have nF:=aE.1 (aQ.1 sM).2;have nG:=aE.1 nF.2.1;have Ts:=aa xf;have HL3:=aa hl3;clear hb xe hR hl xf hl3 hr mT hn;go_enter func50,ntmps50;go_wp2_with fail;refine R5.mono ?_;rintro e w1 ⟨rfl,rfl⟩;have x1:Below w.heap.size w (w.alloc (.cells #[sv s] 9)):=(Below.refl _ _).alloc (af _) _;have kn1:Blk (w.alloc (.cells #[sv s] 9)) w.heap.size 9 [sv s]:=Blk.new' (l:=[sv s]);have Ox:=(aQ.1 sM).1;go_wp2_with (first|(at_builtin;refine n8 (xs:=h.names.map D.s) (F:=Fn) (d:=D.s s) (F':=[]) (b:=w.heap.size) (m:=1) (te:=9) (cs:=[sv s]) jm dU rfl _ _ rfl rfl (em o2 x1) rfl kn1 (by rw[own];exact⟨rfl,rfl,hs⟩) rfl (by simpa using nG.1) eb dP ?_;intro gg gc w2 F2 PP ap md;have kg2:=Blk.mod (g:=g) (kB.next x1) md (λhm=>Ox eV);have md1:Mod (g::(Fc++(Fn++(Fs++[])))) w (w2.setCell ⟨g,1,none⟩ (.slice (some ⟨gg,0,none⟩) (nn+1) gc)):=iV (iV (gU Mod.refl x1) md (λy hy=>by simp [hy])) (Mod.poke (F:=g::(Fc++(Fn++(Fs++[])))) dR _) (λ_ h=>h);obtain⟨h0,h1,h2,h3⟩:=kg2.c4;have fg1:=kg2.frozen 1;have fg2:=kg2.frozen 2;obtain⟨F3,H3,s3⟩:=HB.names_app (kB.next x1) (em o1 x1) (em o3 x1) wf sM (XR.mono dR) PP ap md;replace s3:=s3.low (B:=w.heap.size) dR;have hnd3:=H3.nd;have hlo3:=H3.lo;have hgs3:=H3.lt;obtain⟨Ac3,nc3,cc3,An3,nn3,cn3,As3,ns3,cs3,Fc3,Fn3,Fs3,kB3,rfl,p1,p2,p3,Wa⟩:=H3.open_;obtain⟨rfl,rfl,rfl,rfl,rfl,rfl,rfl,rfl,rfl⟩:=pz (h:={h with names:=h.names++[s]}) (kg2.set_ 1 (.slice (some ⟨gg,0,none⟩) (nn+1) gc)) kB3;have zb:=dX w2 ⟨g,1,none⟩ (.slice (some ⟨gg,0,none⟩) (nn+1) gc);simp only[dX]at hlo3 hgs3;have x3:Below w2.heap.size (w2.setCell ⟨g,1,none⟩ (.slice (some ⟨gg,0,none⟩) (nn+1) gc)) ((w2.setCell ⟨g,1,none⟩ (.slice (some ⟨gg,0,none⟩) (nn+1) gc)).alloc (.cells #[k] 3)):=(Below.refl _ _).alloc qm _;have kn3:Blk ((w2.setCell ⟨g,1,none⟩ (.slice (some ⟨gg,0,none⟩) (nn+1) gc)).alloc (.cells #[k] 3)) w2.heap.size 3 [k]:=by(have:=Blk.new' (w:=w2.setCell ⟨g,1,none⟩ (.slice (some ⟨gg,0,none⟩) (nn+1) gc)) (t:=3) (l:=[.int .i64 k]);rwa [zb]at this))|(at_builtin;refine n8 (xs:=h.slots.map (D.i .i64)) (F:=Fs3) (d:=D.i .i64 k) (F':=[]) (b:=w2.heap.size) (m:=1) (te:=3) (cs:=[.int .i64 k]) Kh dU rfl _ _ rfl rfl (fK p3) rfl kn3 (by rw[own];exact⟨rfl,rfl,hk⟩) rfl BQ eb dP ?_;intro gh gd w5 F5 o5 ap5 md5;have kg5:=Blk.mod (g:=g) kB3.al md5 (λhm=>(aQ.1 hnd3).1 eV);obtain⟨h0',h1',h2',h3'⟩:=kg5.c4;have fg5:=kg5.frozen 2));refine bM (v:= .tuple #[]) (by simp [results,results50,go_sem]) rfl ?_;rw[TN.out];obtain⟨F6,H6,s6⟩:=HB.slots_app (h:={h with names:=h.names++[s]}) kB3.al (fK p1) (fK p2) Wa hnd3 (hlo3.mono fC) o5 ap5 md5;replace s6:=s6.low (B:=w2.heap.size) fC;have e1:Fc++(Fn++(Fs++[]))=Fc++(Fn++Fs):=by rw[bP]
  rw[e1]at s3 md1;exact⟨rfl,F6,H6,s3.trans s6 (by have:=md.size;simp only[dT]at this;omega),nO md1 (iV (iV (gU Mod.refl ((Below.refl _ _).alloc (af _) _)) md5 (λy hy=>by simp [hy])) (Mod.poke (F:=g::(Fc3++(Fn3++(Fs3++[])))) dR _) (λ_ h=>h)) (kj s3) (af _)⟩
 |true=>
  have h0:0<=ix h.names s 0:=sk;obtain⟨i,hi⟩:=bQ h0;have hil:i<h.slots.length:=dP;have xe:fd h s k=iD 5 {h with slots:=h.slots.set i k} (slotD h s):=by unfold fd;rw[aN h0,hi,aU]
  have Tu:=hR hb;rw[hi,aU]at Tu;have TB:h.slots[i]?=some (slotD h s):=Ca;obtain⟨y,hy⟩:∃y,y=slotD h s:=⟨_,rfl⟩;rw[<-hy]at Tu TB xe;obtain⟨Ac,nc,cc,An,nn,cn,bs,ns,cs,kB,hsn,hsm,e0,e1,Po,hbg,H1⟩:=H.slot_set TB hk;obtain⟨L4,JS,L7,Ct,CE,Hw,Wl,WG,cs',Fc,Fn,Fs,IG,hF,o1,o2,o3,wf⟩:=H.open_;obtain⟨rfl,rfl,rfl,rfl,rfl,rfl,rfl,rfl,rfl⟩:=pz kB IG;have xf:=ef (eW _ _ _ _ o2);rw[au]at xf;obtain⟨Ct,CE,Hw,he,-,-,hr,-⟩:=(ls _ _ _ _).1 (eW _ _ _ _ o2);injection he with he;injection he with f1 f2 f3;subst f1 f2 f3
  have R5:=gG An nn cn h.names s w hr dP;rw[hi]at R5;have TN:=aa xe;have hlt:(i:Int)<(ns:Int):=dP;have i0:(0:Int)<=(i:Int):=dP;have HR2:=aa Tu;obtain⟨g0,g1,g2,g3⟩:=kB.c4;clear hb xe hR hl xf hr mT hn hi h0 hil TB hy Tu IG hsn o1 o2 o3 hF;go_enter func50,ntmps50;go_wp2_with fail;refine R5.mono ?_;rintro e w1 ⟨rfl,rfl⟩;go_wp2_with fail;refine(ro 5 _ y g F _ H1 HR2.out).mono ?_;rintro e w3 ⟨rfl,F3,H3,s3,m3⟩;go_wp2_with fail;refine bodyPost_end (v:= .tuple #[]) (by simp [results,results50,go_sem]) rfl ?_;rw[TN.out];have md:Mod (g::F) w (w.setCell ⟨bs,i,none⟩ (.int .i64 k)):=Mod.poke (by simp [Po]) _;exact⟨rfl,F3,H3,s3.low qm,nO md m3 Sub.refl (af _)⟩
end Go.Proofs.YtekcpadlmfaihaaGreat
