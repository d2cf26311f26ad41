/- What the law's own mark and held do over slices of Heap. -/
import Derived.Test.YtekcpadlmfaihaaGreatVReg
import Derived.Test.YtekcpadlmfaihaaGreatVDmVector
import Derived.Test.YtekcpadlmfaihaaGreatVFb
import Derived.Deep.DrawnRows
namespace Go.Proofs.YtekcpadlmfaihaaGreat
open Go.RowKit Proofs.Tryz
set_option maxHeartbeats 8000000
set_option maxRecDepth 100000
set_option linter.unusedSimpArgs false
set_option linter.unusedVariables false
variable {h:Hp} {F:List Nat} {cs:List Value} {g:Nat} {P:Program} {s:Str} {t:TypeId} {w:World}
theorem tC {x:Hp} (h:own prog w x.toD 28 F cs):∃(oF:Option Addr) (o8:Nat) (nR:Nat) (fU:Option Addr) (fW:Nat) (fV:Nat) (oG:Option Addr) (o9:Nat) (oM:Nat) (C1:List Nat) (Fnames:List Nat) (C2:List Nat),cs=[.slice oF o8 nR,.slice fU fW fV,.slice oG o9 oM,.int .i64 x.copies]/\F=C1++(Fnames++(C2++[]))/\own prog w (.sl (x.cells.map Cel.toD)) 24 C1 [.slice oF o8 nR]/\own prog w (.sl (x.names.map D.s)) 25 Fnames [.slice fU fW fV]/\own prog w (.sl (x.slots.map (D.i .i64))) 26 C2 [.slice oG o9 oM]:=by rw[uP,own]at h;obtain⟨KW,css,h1,rfl,h⟩:=h;rw[underlying28]at h1;injection h1 with h1;injection h1 with h1;subst h1;replace h:iB prog w [.sl (x.cells.map Cel.toD),.sl (x.names.map .s),.sl (x.slots.map (.i .i64)),.i .i64 x.copies] [24,25,26,3] F css:=h;rw[iB]at h;obtain⟨t0,u0,G0,H0,d0,e0,ht,rfl,rfl,k0,h⟩:=h;injection ht with rL rM;subst rL rM;obtain⟨A0,n0,q0,rfl⟩:=fD (eW _ _ _ _ k0);rw[iB]at h;obtain⟨t1,u1,G1,H1,d1,e1,ht,rfl,rfl,k1,h⟩:=h;injection ht with rL rM;subst rL rM;obtain⟨A1,n1,q1,rfl⟩:=fD (eW _ _ _ _ k1);rw[iB]at h;obtain⟨t2,u2,G2,H2,d2,e2,ht,rfl,rfl,k2,h⟩:=h;injection ht with rL rM;subst rL rM;obtain⟨A2,n2,q2,rfl⟩:=fD (eW _ _ _ _ k2);rw[iB]at h;obtain⟨t3,u3,G3,H3,d3,e3,ht,rfl,rfl,k3,h⟩:=h;injection ht with rL rM;subst rL rM;rw[own]at k3;obtain⟨rfl,rfl,_⟩:=k3;rw[iB]at h;obtain⟨_,rfl,rfl⟩:=h;exact⟨A0,n0,q0,A1,n1,q1,A2,n2,q2,G0,G1,G2,rfl,rfl,k0,k1,k2⟩
theorem rD:ElemTy prog 26 3 1 8:=GR
section
variable {w0 w:World} {X:List Nat} {R:List As} {Ai Ap An Ac Al Aq Ah:Option Addr} {ni ci np cp nn cn nc cc nl cl nq cq nh ch:Nat}
theorem Mem.joinVec {v:Vec} (M:Mem prog w0 X w (.ow (.sl (v.items.map Item.toD)) 35 [.slice Ai ni ci]:: .ow (.sl (v.parts.map Vec.toD)) 36 [.slice Ap np cp]:: .ow (.sl (v.names.map .s)) 25 [.slice An nn cn]:: .ow (.sl (v.cls.map .s)) 25 [.slice Ac nc cc]:: .ow (.sl (v.levels.map .s)) 25 [.slice Al nl cl]::R))
 (wk:(Lit.int .i64 v.kind).wf=true) (wc:(Lit.int .i64 v.code).wf=true) (we:(Lit.int .i64 v.env).wf=true):Mem prog w0 X w (.ow v.toD 38 [v.kind,.slice Ai ni ci,.slice Ap np cp,.slice An nn cn,.slice Ac nc cc,.slice Al nl cl,v.code,v.env]::R):=
 Mem.as (C:=[_,_,_,_,_]) (C':=[_]) M λF hF _=>by obtain⟨F1,_,rfl,o1,F2,_,rfl,o2,F3,_,rfl,o3,F4,_,rfl,o4,F5,_,rfl,o5,rfl⟩:=hF;exact iQ.2 (jD wk o1 o2 o3 o4 o5 wc we)
theorem Mem.openVec {v:Vec} {cs:List Value} (M:Mem prog w0 X w (.ow v.toD 38 cs::R)):∃(Ai:Option Addr) (ni ci:Nat) (Ap:Option Addr) (np cp:Nat) (An:Option Addr) (nn cn:Nat) (Ac:Option Addr) (nc cc:Nat) (Al:Option Addr) (nl cl:Nat),cs=[.int .i64 v.kind,.slice Ai ni ci,.slice Ap np cp,.slice An nn cn,.slice Ac nc cc,.slice Al nl cl,.int .i64 v.code,.int .i64 v.env]/\
 Mem prog w0 X w (.ow (.sl (v.items.map Item.toD)) 35 [.slice Ai ni ci]:: .ow (.sl (v.parts.map Vec.toD)) 36 [.slice Ap np cp]:: .ow (.sl (v.names.map .s)) 25 [.slice An nn cn]:: .ow (.sl (v.cls.map .s)) 25 [.slice Ac nc cc]:: .ow (.sl (v.levels.map .s)) 25 [.slice Al nl cl]::R):=by
 obtain⟨F,h1,h2,h3⟩:=Mem.split [_] M;obtain⟨Ai,ni,ci,Ap,np,cp,An,nn,cn,Ac,nc,cc,Al,nl,cl,F1,F2,F3,F4,F5,rfl,rfl,o1,o2,o3,o4,o5⟩:=jE (iQ.1 h1);exact⟨Ai,ni,ci,Ap,np,cp,An,nn,cn,Ac,nc,cc,Al,nl,cl,rfl,h3 w [_,_,_,_,_] _ ⟨F1,_,rfl,o1,F2,_,rfl,o2,F3,_,rfl,o3,F4,_,rfl,o4,F5,_,rfl,o5,rfl⟩ h2 (λg hg=> .inl hg) Mod.refl⟩
theorem Mem.joinCell {x:Cel} {cs:List Value} (M:Mem prog w0 X w (.ow x.value.toD 38 cs:: .ow (.sl (x.parts.map (.i .i64))) 26 [.slice Aq nq cq]::R)) (wc:(Lit.int .i64 x.count).wf=true):
 Mem prog w0 X w (.ow x.toD 43 (.int .i64 x.count::(cs++[.slice Aq nq cq]))::R):=
 Mem.as (C:=[_,_]) (C':=[_]) M λF hF _=>by obtain⟨F1,_,rfl,o1,F2,_,rfl,o2,rfl⟩:=hF;obtain⟨Ai,ni,ci,Ap,np,cp,An,nn,cn,Ac,nc,cc,Al,nl,cl,G1,G2,G3,G4,G5,rfl,-⟩:=jE o1;exact iQ.2 (uO wc o1 o2)
theorem Mem.joinHeap {h:Hp} (M:Mem prog w0 X w (.ow (.sl (h.cells.map Cel.toD)) 24 [.slice Ah nh ch]:: .ow (.sl (h.names.map .s)) 25 [.slice An nn cn]:: .ow (.sl (h.slots.map (.i .i64))) 26 [.slice Aq nq cq]::R)) (wc:(Lit.int .i64 h.copies).wf=true):
 Mem prog w0 X w (.ow h.toD 28 [.slice Ah nh ch,.slice An nn cn,.slice Aq nq cq,h.copies]::R):=
 Mem.as (C:=[_,_,_]) (C':=[_]) M λF hF _=>by obtain⟨F1,_,rfl,o1,F2,_,rfl,o2,F3,_,rfl,o3,rfl⟩:=hF;exact iQ.2 (Da o1 o2 o3 wc)
end
theorem Jo {h:Hp} {d:Nat} {k:Int} (hd:depD h d k=true):∃(j:Nat) (x:Cel),k=j/\j<h.cells.length/\h.cells[j]?=some x/\x.value.parts=[]/\x.parts.length<=40/\(∀p∈x.parts,∃d',d=d'+1/\depD h d' p=true)/\asm h d k={x.value with parts:=x.parts.map (asm h (d - 1))}:=by
 obtain⟨j,x,rfl,hj,hx,he⟩:=kU (j7 (zp hd));refine⟨j,x,rfl,hj,hx,?_⟩;cases d with
 |zero=>
  rw[depD,he]at hd;simp only[ax,aL]at hd;have h0:=wO hd.1;have hv:=aR.1 hd.2;refine⟨hv,by simp [h0],by simp [h0],?_⟩;rw[asm,he,h0];rcases hxv:x.value with ⟨a,b,c,d,e,f,g,i⟩;rw[hxv]at hv;simp only at hv;subst hv;rfl
 |succ d=>
  rw[depD,he]at hd;simp only[ax,aL,aV]at hd;obtain⟨⟨h1,h2⟩,h3⟩:=hd;refine⟨aR.1 h3,?_,λp hp=>⟨d,rfl,h2 p hp⟩,by rw[asm,he];rfl⟩;simp only[nS,ax,bX,aL]at h1;omega
def Pw (h:Hp) (A:Option Addr) (n c:Nat) (Am:Option Addr) (nm cm:Nat) (Aj:Option Addr) (ns ca:Nat):List Value:=[.slice A n c,.slice Am nm cm,.slice Aj ns ca,.int .i64 h.copies]
def asL (v:Vec) (ps:List Vec) (h:Hp) (w W0:World) (bs:Nat) (lK:List Value) (np g:Nat) (A1:Option Addr) (n1 c1:Nat) (A2:Option Addr) (n2 c2:Nat) (A3:Option Addr) (n3 c3:Nat) (A4:Option Addr) (n4 c4:Nat) (F1 F2 F3 F4:List Nat) (i:Value) (wr:World):Prop:=
 ∃(k:Nat) (Ao:Option Addr) (co:Nat) (FP:List Nat),k<=np/\i= .int .i64 k/\Blk wr g 38 [v.kind,.slice A1 n1 c1,.slice Ao k co,.slice A2 n2 c2,.slice A3 n3 c3,.slice A4 n4 c4,v.code,v.env]/\
 Blk wr w.heap.size 28 lK/\
 own prog wr (.sl ((ps.take k).map Vec.toD)) 36 FP [.slice Ao k co]/\
 own prog wr (.sl (v.items.map Item.toD)) 35 F1 [.slice A1 n1 c1]/\own prog wr (.sl (v.names.map .s)) 25 F2 [.slice A2 n2 c2]/\own prog wr (.sl (v.cls.map .s)) 25 F3 [.slice A3 n3 c3]/\own prog wr (.sl (v.levels.map .s)) 25 F4 [.slice A4 n4 c4]/\Fresh bs (FP++(g::(F1++(F2++(F3++F4)))))/\Below W0.heap.size W0 wr
def asP (h:Hp) (d:Nat):Prop:=∀(k:Int) (cs:List Value) (w:World),rep w w.heap.size h.toD cs->depD h d k=true->Calls prog 41 #[av cs,k] w (gM (asm h d k).toD 38 w)
theorem NI {A:Option Addr} {n c:Nat} (h:own P w (.sl []) t F [.slice A n c]):n=0:=(Q_ h).symm
theorem zc (h:Hp) (hz:szD h.toD<=4194304) (d:Nat) (ih:∀d',d=d'+1->asP h d'):asP h d:=by
 intro k cs w hr hd;obtain⟨j,x,rfl,hjl,hx,hxv,h40,hps,Un⟩:=Jo hd;have hcz:=wI h (j:Int);rw[iI hx]at hcz;obtain⟨A,n,c,Am,nm,cm,Aj,ns,ca,rfl,rc,rn,rs,wc⟩:=iP hr;have hl:=(ef rc).1;rw[au]at hl;obtain⟨b,off,x',Ai,ni,ci,Ap,np,cp,An,nn,cn,Ac,nc,cc,Al,nl,cl,Aq,nq,cq,rfl,gD,qD,fE,e0,e1,e2,e3,e4,e5,e6,e7,e8,e9⟩:=lm rc (k:=j) dP;rw[hx]at qD;injection qD with qD;subst qD;obtain⟨_,_,_,_,_,_,_,_,_,_,_,_,_,_,_,WQ,Yp,Xi,lK,wcn,rv,rq⟩:=i8 fE;simp only[bF,bG,dy,cO]at lK;obtain⟨⟨rfl,rfl,rfl⟩,⟨rfl,rfl,rfl⟩,⟨rfl,rfl,rfl⟩,⟨rfl,rfl,rfl⟩,⟨rfl,rfl,rfl⟩,rfl,rfl,rfl⟩:=lK;obtain⟨WQ,Yp,Xi,he,hqc,hqm,hq,_⟩:=(qy _ _ _ _).1 rq;injection he with he;injection he with f1 f2 f3;subst f1 f2 f3
 have Px:=hq.len;have hnq:nq<=40:=dP;have bj:(j:Int)<(n:Int):=dP;have bj0:(0:Int)<=(j:Int):=dP;have q0:=((Below.refl w.heap.size w).alloc (af _) (.cells #[.slice (some ⟨b,off,none⟩) n c,.slice Am nm cm,.slice Aj ns ca,h.copies] 28)).alloc eA (.cells #[.int .i64 0,(),(),(),(),(),.int .i64 0,.int .i64 0] 38);have kH:Blk ((w.alloc (.cells #[.slice (some ⟨b,off,none⟩) n c,.slice Am nm cm,.slice Aj ns ca,h.copies] 28)).alloc (.cells #[.int .i64 0,(),(),(),(),(),.int .i64 0,.int .i64 0] 38)) w.heap.size 28 [.slice (some ⟨b,off,none⟩) n c,.slice Am nm cm,.slice Aj ns ca,h.copies]:=(Blk.new' (l:=[.slice (some ⟨b,off,none⟩) n c,.slice Am nm cm,.slice Aj ns ca,.int .i64 h.copies])).al;have kR:Blk ((w.alloc (.cells #[.slice (some ⟨b,off,none⟩) n c,.slice Am nm cm,.slice Aj ns ca,h.copies] 28)).alloc (.cells #[.int .i64 0,(),(),(),(),(),.int .i64 0,.int .i64 0] 38)) (w.heap.size+1) 38 [.int .i64 0,(),(),(),(),(),.int .i64 0,.int .i64 0]:=by have:=Blk.new' (w:=w.alloc (.cells #[.slice (some ⟨b,off,none⟩) n c,.slice Am nm cm,.slice Aj ns ca,h.copies] 28)) (t:=38) (l:=[.int .i64 0,.slice none 0 0,.slice none 0 0,.slice none 0 0,.slice none 0 0,.slice none 0 0,.int .i64 0,.int .i64 0]);simpa only[dT]using this
 have HX:=aa hx;have HXV:=aa hxv;have xo:=aa ih;have HPS:=aa hps;have acV:=aa Un;have HQL:=aa Px;have HR:=aa hr;clear hx hxv ih hps Un Px hr hd hl;have rv0:=fb rv q0 q0.size;have zv0:szD x.value.toD<=500000000000:=dP;go_enter func41,ntmps41;go_wp2_with fail;refine(jd x.value _ _ rv0 zv0).mono ?_;rintro e w1 ⟨cs1,G,rfl,o1,AP,hb1⟩;obtain⟨A1,n1,c1,A5,n5,c5,A2,n2,c2,A3,n3,c3,A4,n4,c4,F1,F5,F2,F3,F4,rfl,rfl,wk,p1,p5,p2,p3,p4,xF,I9⟩:=uT o1;rw[HXV.out]at p5;obtain rfl:=NI p5;obtain⟨hc1,hf1⟩:=fY hb1;have z1:=hb1.size;(try simp only[dW,dT,dX]at hc1 hf1 z1);have kH1:=kH.next hb1;have ZP:=kR.next hb1;have yb:b<w1.heap.size:=dP;have y0:w.heap.size<w1.heap.size:=dP;have y1:w.heap.size+1<w1.heap.size:=dP;have q1:=ij q0 hb1;have e9:=(q1.cell (p:=⟨b,off+j*10+9,none⟩) gD).trans e9;obtain⟨g0,g1,g2,g3⟩:=kH1.c4;clear e0 e1 e2 e3 e4 e5 e6 e7 e8 hc1 hf1;go_wp2_with fail;clear g0 g1 g2 g3 e9;have kg:Blk (w1.alloc (.cells #[x.value.kind,.slice A1 n1 c1,.slice A5 0 c5,.slice A2 n2 c2,.slice A3 n3 c3,.slice A4 n4 c4,x.value.code,x.value.env] 38)) w1.heap.size 38 [x.value.kind,.slice A1 n1 c1,.slice A5 0 c5,.slice A2 n2 c2,.slice A3 n3 c3,.slice A4 n4 c4,x.value.code,x.value.env]:=Blk.new';have qa:=(Below.refl w1.heap.size w1).alloc (af _) (.cells #[x.value.kind,.slice A1 n1 c1,.slice A5 0 c5,.slice A2 n2 c2,.slice A3 n3 c3,.slice A4 n4 c4,x.value.code,x.value.env] 38);have l1:=gC o1;go_loopw [22] (λi wr=>asL x.value (x.parts.map (asm h (d - 1))) h w w (w.heap.size+2) [.slice (some ⟨b,off,none⟩) n c,.slice Am nm cm,.slice Aj ns ca,h.copies] nq w1.heap.size A1 n1 c1 A2 n2 c2 A3 n3 c3 A4 n4 c4 F1 F2 F3 F4 i wr/\Blk wr (w.heap.size+1) 38 [.int .i64 0,(),(),(),(),(),.int .i64 0,.int .i64 0]) (λi _=>nq - (intOf i).toNat)
 case atStart=>
  refine⟨⟨0,A5,c5,F5,by omega,rfl,kg,kH1.al,by simpa using fK p5,fK p1,fK p2,fK p3,fK p4,?_,gT q1 q1.size⟩,ZP.al⟩;have f1:Fresh (w.heap.size+2) (w1.heap.size::(F1++(F5++(F2++(F3++F4))))):=Fresh.cons (l1.notin (af _)) dP (AP.mono eA);exact f1.perm (List.perm_iff_count.2 λa=>by simp only[bT,cX];omega)
 case round=>
  clear kg kH1 ZP p1 p2 p3 p4 p5 qa o1 l1;obtain⟨⟨k,Ao,co,FP,hk,rfl,kg,kH,oP,o1,o2,o3,o4,fr,bb⟩,kR⟩:=hrel;have z0:=bb.size;have XK:=kg.lt;have yb:b<wr.heap.size:=dP;have yh:w.heap.size<wr.heap.size:=dP;obtain⟨g0,g1,g2,g3⟩:=kH.c4;by_cases hlt:k<nq
  ·obtain⟨bq,oq,y,rfl,hbq,hy,hcq⟩:=(hq.below bb).at_ hlt;have c0:=hcq 0 _ rfl;simp only[cu,cF]at c0;have HY:=aa (eJ (l:=x.parts.map (asm h (d - 1))) (k:=k) (x:=asm h (d - 1) y) (by rw[cg,hy];rfl));obtain⟨d',hd',hdy⟩:=HPS.out y (aA hy);have HP:=aa (xo.out d' hd');have HD:Hid (d - 1=d'):=aa dP;have HDY:=aa hdy;have ry:=fb HR.out bb bb.size;have hyb:bq<wr.heap.size:=dP;clear hcq hy hd' hdy;go_upto_region 5 with fail
   clear c0 g0 g1 g2 g3;obtain⟨g0,g1,g2,g3⟩:=kH.c4;have eg:=kg.cell 2;simp only[ah,ag]at eg;have zf:=kg.frozen 2;have lP:=gC oP;have LL:=aa (lP.app (Lo.cons XK ((gC o1).app ((gC o2).app ((gC o3).app (gC o4))))));have Iq:=fr.left;have dg:=fr.dis w1.heap.size aT;have ZV:=(aQ.1 fr.right.1).1;simp only[aG,not_or]at ZV;obtain⟨N1,N2,N3,N4⟩:=ZV;have D1:=aa (λy (hy:y∈F1)=>fr.dis y eK);have D2:=aa (λy (hy:y∈F2)=>fr.dis y eK);have D3:=aa (λy (hy:y∈F3)=>fr.dis y eK);have D4:=aa (λy (hy:y∈F4)=>fr.dis y eK);go_region_law (first
    |(go_simp;go_at_call 41;refine(HP.out y _ _ (by(repeat'(first|with_reducible assumption|with_reducible refine kK ?_|with_reducible refine sL ?_|with_reducible refine fM ?_ dY))) HDY.out).mono ?_;rintro e w2 ⟨cs1,G1,rfl,Hz,Cf,jS⟩;obtain⟨Ci,ki,ei,Cp,kp,ep,Cn,kn,en,Cc,kc,ec,Cl,kl,el,rfl,_⟩:=fw (eW _ _ _ _ Hz);obtain⟨hc2,hf2⟩:=fY jS;have z2:=jS.size;(try simp only[dW,dT,dX]at hc2 hf2 z2 Cf);have yg:w1.heap.size<w2.heap.size:=by omega)
    |(refine gL (A:=Ao) (n:=k) (c:=co) (b:=w2.heap.size) (m:=1) (xs:=((x.parts.map (asm h (d - 1))).take k).map Vec.toD) (F:=FP) (d:=(asm h d' y).toD) (F':=G1) (te:=38) (cs:=[.int .i64 (asm h d' y).kind,.slice Ci ki ei,.slice Cp kp ep,.slice Cn kn en,.slice Cc kc ec,.slice Cl kl el,.int .i64 (asm h d' y).code,.int .i64 (asm h d' y).env]) jM ?_ ?_ (.tmp 27) (.tmp 31) ?_ ?_ ?_ ?_ ?_ ?_ ?_ ?_ ?_ ?_ ?_;(kernel_rfl);(rfl);(rfl);(rfl);(focus (repeat'(first|with_reducible assumption|with_reducible refine gX ?_|with_reducible refine fK ?_|with_reducible refine ft ?_ ?_|with_reducible exact fS|with_reducible refine fR ?_ ?_|(with_reducible refine Fresh.notin dY ?_;((try simp only[dW,dT,dX]);omega))|(with_reducible refine Lo.notin dY ?_;((try simp only[dW,dT,dX]);omega))|with_reducible refine em ?_ dY)));(rfl);(focus (repeat'(first|with_reducible assumption|with_reducible exact Blk.new'|with_reducible exact Blk.newd|with_reducible apply Blk.set8|(with_reducible refine Blk.pk ?_ ?_;((try simp only[dW,dT,dX]);omega))|with_reducible refine Blk.dw ?_|with_reducible refine Blk.al ?_|with_reducible refine Blk.next ?_ dY)));(focus (repeat'(first|with_reducible assumption|with_reducible refine gX ?_|with_reducible refine fK ?_|with_reducible refine ft ?_ ?_|with_reducible exact fS|with_reducible refine fR ?_ ?_|(with_reducible refine Fresh.notin dY ?_;((try simp only[dW,dT,dX]);omega))|(with_reducible refine Lo.notin dY ?_;((try simp only[dW,dT,dX]);omega))|with_reducible refine em ?_ dY)));(rfl);(exact(Fresh.app2 lP Iq Cf dP).1);(unfold maxLen;omega);(omega);intro gg cc w3 Ku TG KD rN;have kg2:=Blk.mod (t:=38) (cs:=[.int .i64 x.value.kind,.slice A1 n1 c1,.slice Ao k co,.slice A2 n2 c2,.slice A3 n3 c3,.slice A4 n4 c4,.int .i64 x.value.code,.int .i64 x.value.env]) (by(repeat'(first|with_reducible assumption|with_reducible exact Blk.new'|with_reducible exact Blk.newd|with_reducible apply Blk.set8|(with_reducible refine Blk.pk ?_ ?_;((try simp only[dW,dT,dX]);omega))|with_reducible refine Blk.dw ?_|with_reducible refine Blk.al ?_|with_reducible refine Blk.next ?_ dY))) rN dg;have eg2:=kg2.cell 2;(simp only[ah,ag]at eg2);have zf2:=kg2.frozen 2))
   all_goals
    go_wp2_with fail;go_roundw
    case rel=>
     have z3:=rN.size;simp only[dW,dT,dX]at z3;have ng:w1.heap.size ∉ Ku:=KD.notin dg Cf.2 dP (by((try simp only[dW,dT,dX]);omega));refine⟨⟨k+1,some ⟨gg,0,none⟩,cc,Ku,by omega,by go_num,?_,?_,?_,?_,?_,?_,?_,?_,?_⟩,?_⟩
     ·exact kg2.set_ 2 _
     ·have k2:=Blk.mod (g:=w.heap.size) (t:=28) (cs:=[.slice (some ⟨b,off,none⟩) n c,.slice Am nm cm,.slice Aj ns ca,.int .i64 h.copies]) (by(repeat'(first|with_reducible assumption|with_reducible exact Blk.new'|with_reducible exact Blk.newd|with_reducible apply Blk.set8|(with_reducible refine Blk.pk ?_ ?_;((try simp only[dW,dT,dX]);omega))|with_reducible refine Blk.dw ?_|with_reducible refine Blk.al ?_|with_reducible refine Blk.next ?_ dY))) rN (Iq.notin dP);exact k2.pk ig
     ·rw[HY.out,HD.out,aI,br,bL];rw[HD.out]at TG
      (repeat'(first|with_reducible assumption|with_reducible refine gX ?_|with_reducible refine fK ?_|with_reducible refine ft ?_ ?_|with_reducible exact fS|with_reducible refine fR ?_ ?_|(with_reducible refine Fresh.notin dY ?_;((try simp only[dW,dT,dX]);omega))|(with_reducible refine Lo.notin dY ?_;((try simp only[dW,dT,dX]);omega))|with_reducible refine em ?_ dY))
     ·have o12:=fH (cs:=[.slice A1 n1 c1]) (d:= .sl (x.value.items.map Item.toD)) (t:=35) (P:=prog) (G:=F1) (by(repeat'(first|with_reducible assumption|with_reducible refine gX ?_|with_reducible refine fK ?_|with_reducible refine ft ?_ ?_|with_reducible exact fS|with_reducible refine fR ?_ ?_|(with_reducible refine Fresh.notin dY ?_;((try simp only[dW,dT,dX]);omega))|(with_reducible refine Lo.notin dY ?_;((try simp only[dW,dT,dX]);omega))|with_reducible refine em ?_ dY))) rN D1.out
      (repeat'(first|with_reducible assumption|with_reducible refine gX ?_|with_reducible refine fK ?_|with_reducible refine ft ?_ ?_|with_reducible exact fS|with_reducible refine fR ?_ ?_|(with_reducible refine Fresh.notin dY ?_;((try simp only[dW,dT,dX]);omega))|(with_reducible refine Lo.notin dY ?_;((try simp only[dW,dT,dX]);omega))|with_reducible refine em ?_ dY))
     ·have o12:=fH (cs:=[.slice A2 n2 c2]) (d:= .sl (x.value.names.map .s)) (t:=25) (P:=prog) (G:=F2) (by(repeat'(first|with_reducible assumption|with_reducible refine gX ?_|with_reducible refine fK ?_|with_reducible refine ft ?_ ?_|with_reducible exact fS|with_reducible refine fR ?_ ?_|(with_reducible refine Fresh.notin dY ?_;((try simp only[dW,dT,dX]);omega))|(with_reducible refine Lo.notin dY ?_;((try simp only[dW,dT,dX]);omega))|with_reducible refine em ?_ dY))) rN D2.out
      (repeat'(first|with_reducible assumption|with_reducible refine gX ?_|with_reducible refine fK ?_|with_reducible refine ft ?_ ?_|with_reducible exact fS|with_reducible refine fR ?_ ?_|(with_reducible refine Fresh.notin dY ?_;((try simp only[dW,dT,dX]);omega))|(with_reducible refine Lo.notin dY ?_;((try simp only[dW,dT,dX]);omega))|with_reducible refine em ?_ dY))
     ·have o12:=fH (cs:=[.slice A3 n3 c3]) (d:= .sl (x.value.cls.map .s)) (t:=25) (P:=prog) (G:=F3) (by(repeat'(first|with_reducible assumption|with_reducible refine gX ?_|with_reducible refine fK ?_|with_reducible refine ft ?_ ?_|with_reducible exact fS|with_reducible refine fR ?_ ?_|(with_reducible refine Fresh.notin dY ?_;((try simp only[dW,dT,dX]);omega))|(with_reducible refine Lo.notin dY ?_;((try simp only[dW,dT,dX]);omega))|with_reducible refine em ?_ dY))) rN D3.out
      (repeat'(first|with_reducible assumption|with_reducible refine gX ?_|with_reducible refine fK ?_|with_reducible refine ft ?_ ?_|with_reducible exact fS|with_reducible refine fR ?_ ?_|(with_reducible refine Fresh.notin dY ?_;((try simp only[dW,dT,dX]);omega))|(with_reducible refine Lo.notin dY ?_;((try simp only[dW,dT,dX]);omega))|with_reducible refine em ?_ dY))
     ·have o12:=fH (cs:=[.slice A4 n4 c4]) (d:= .sl (x.value.levels.map .s)) (t:=25) (P:=prog) (G:=F4) (by(repeat'(first|with_reducible assumption|with_reducible refine gX ?_|with_reducible refine fK ?_|with_reducible refine ft ?_ ?_|with_reducible exact fS|with_reducible refine fR ?_ ?_|(with_reducible refine Fresh.notin dY ?_;((try simp only[dW,dT,dX]);omega))|(with_reducible refine Lo.notin dY ?_;((try simp only[dW,dT,dX]);omega))|with_reducible refine em ?_ dY))) rN D4.out
      (repeat'(first|with_reducible assumption|with_reducible refine gX ?_|with_reducible refine fK ?_|with_reducible refine ft ?_ ?_|with_reducible exact fS|with_reducible refine fR ?_ ?_|(with_reducible refine Fresh.notin dY ?_;((try simp only[dW,dT,dX]);omega))|(with_reducible refine Lo.notin dY ?_;((try simp only[dW,dT,dX]);omega))|with_reducible refine em ?_ dY))
     ·exact G9
     ·have B2:=jN (B:=w.heap.size) (a:=w) (by(repeat'(first|with_reducible assumption|with_reducible exact Below.refl _ _|with_reducible refine jR ?_|with_reducible refine gT ?_ ?_|with_reducible refine ie ?_ ?_|with_reducible refine gR ?_ dY ?_|((try simp only[dW,dT,dX]);omega)))) rN (λy hy=>by have:=Iq.2 y hy;omega) (by((try simp only[dW,dT,dX]);omega))
      (repeat'(first|with_reducible assumption|with_reducible exact Below.refl _ _|with_reducible refine jR ?_|with_reducible refine gT ?_ ?_|with_reducible refine ie ?_ ?_|with_reducible refine gR ?_ dY ?_|((try simp only[dW,dT,dX]);omega)))
     ·have k2:=Blk.mod (g:=w.heap.size+1) (t:=38) (cs:=[.int .i64 0,.slice none 0 0,.slice none 0 0,.slice none 0 0,.slice none 0 0,.slice none 0 0,.int .i64 0,.int .i64 0]) (by(repeat'(first|with_reducible assumption|with_reducible exact Blk.new'|with_reducible exact Blk.newd|with_reducible apply Blk.set8|(with_reducible refine Blk.pk ?_ ?_;((try simp only[dW,dT,dX]);omega))|with_reducible refine Blk.dw ?_|with_reducible refine Blk.al ?_|with_reducible refine Blk.next ?_ dY))) rN (Iq.notin dP);exact k2.pk ig
    case measure=>simp [intOf];omega
  ·obtain rfl:k=nq:=dP;obtain⟨r0,r1,r2,r3,r4,r5,r6,r7⟩:=kR.c8;have Cz:w.heap.size+1<wr.heap.size:=dP;obtain⟨e0,e1,e2,e3,e4,e5,e6,e7⟩:=kg.c8;have zr:=λi=>kR.frozen i;have Tq:=zr 0;have zr1:=zr 1;have zr2:=zr 2;have zr3:=zr 3;have zr4:=zr 4;have zr5:=zr 5;have zr6:=zr 6;have zr7:=zr 7;clear zr g0 g1 g2 g3;go_wp2_with fail;rw[aC (by rw[au,HQL.out];omega)]at oP;have hgR:w1.heap.size≠w.heap.size+1:=dP;refine bM (v:= .agg #[x.value.kind,.slice A1 n1 c1,.slice Ao k co,.slice A2 n2 c2,.slice A3 n3 c3,.slice A4 n4 c4,x.value.code,x.value.env]) (by simp [results,results41,go_sem,r0,r1,r2,r3,r4,r5,r6,r7,Cz]) rfl ⟨_,F1++(FP++(F2++(F3++(F4++[])))),rfl,?_,?_,?_⟩
   ·exact GB
   ·exact yF
   ·exact mg
theorem pL (h:Hp) (hz:szD h.toD<=4194304):∀d:Nat,asP h d
 |0=>zc h hz 0 (λd' e=>by omega)
 |d+1=>zc h hz (d+1) (λd' e=>by obtain rfl:d=d':=dP;exact pL h hz d)
attribute [local go_sem ↓] Go.wp_at_zero Go.wp_at_succ
def zV:List Value:=[.int .i64 0,.slice none 0 0,.slice none 0 0,.slice none 0 0,.slice none 0 0,.slice none 0 0,.int .i64 0,.int .i64 0]
theorem Dg {v y:Vec} {ps:List Vec}{wr w2 w3:World} {lK:List Value}{np k co gg cc:Nat} {Ao A1 A2 A3 A4:Option Addr} {n1 c1 n2 c2 n3 c3 n4 c4:Nat} {F1 F2 F3 F4 FP G1 Ku:List Nat} {ob:List Value}
 (hk:k<np) (HY:ps.take (k+1)=ps.take k++[y])
 (kg:Blk wr g 38 [v.kind,.slice A1 n1 c1,.slice Ao k co,.slice A2 n2 c2,.slice A3 n3 c3,.slice A4 n4 c4,v.code,v.env]) (kH:Blk wr w.heap.size 28 lK)
 (oP:own prog wr (.sl ((ps.take k).map Vec.toD)) 36 FP [.slice Ao k co])
 (o1:own prog wr (.sl (v.items.map Item.toD)) 35 F1 [.slice A1 n1 c1]) (o2:own prog wr (.sl (v.names.map .s)) 25 F2 [.slice A2 n2 c2]) (o3:own prog wr (.sl (v.cls.map .s)) 25 F3 [.slice A3 n3 c3]) (o4:own prog wr (.sl (v.levels.map .s)) 25 F4 [.slice A4 n4 c4])
 (fr:Fresh (w.heap.size+2) (FP++(g::(F1++(F2++(F3++F4)))))) (bb:Below w.heap.size w wr) (kR:Blk wr (w.heap.size+1) 38 zV) (XK:g<wr.heap.size) (hwr:w.heap.size+1<wr.heap.size)
 (hb:Below wr.drew.heap.size wr.drew w2) (hG:Fresh wr.heap.size G1) (ap:AppF (w2.heap.size+1) FP G1 Ku) (md:Mod FP (w2.alloc (.cells ob.toArray 38)) w3)
 (TG:own prog w3 (.sl ((ps.take k).map Vec.toD++[y.toD])) 36 Ku [.slice (some ⟨gg,0,none⟩) (k+1) cc]):
 asL v ps h w w (w.heap.size+2) lK np g A1 n1 c1 A2 n2 c2 A3 n3 c3 A4 n4 c4 F1 F2 F3 F4 (.int .i64 ((k:Int)+1)) (w3.setCell ⟨g,2,none⟩ (.slice (some ⟨gg,0,none⟩) (k+1) cc))/\Blk (w3.setCell ⟨g,2,none⟩ (.slice (some ⟨gg,0,none⟩) (k+1) cc)) (w.heap.size+1) 38 zV:=by
 have lP:=gC oP;have LL:=lP.app (Lo.cons XK ((gC o1).app ((gC o2).app ((gC o3).app (gC o4)))));have Iq:=fr.left;have dg:=fr.dis g aT;have hgB:=fr.right.2 g aT;have ZV:=(aQ.1 fr.right.1).1;simp only[aG,not_or]at ZV;obtain⟨N1,N2,N3,N4⟩:=ZV;have z2:=hb.size;have z3:=md.size;simp only[dT,dW]at z2 z3;have jb:Below wr.heap.size wr (w2.alloc (.cells ob.toArray 38)):=gT ((Below.refl wr.heap.size wr).drew.trans hb) z2;have ng:g ∉ Ku:=ap.notin dg hG.2 XK dP;have cp:∀{d:D} {t:TypeId} {F:List Nat} {cs:List Value},own prog wr d t F cs->(∀y∈F,y ∉ FP)->g ∉ F->own prog (w3.setCell ⟨g,2,none⟩ (.slice (some ⟨gg,0,none⟩) (k+1) cc)) d t F cs:=λo hd hn=>ft (fH (em o jb) md hd) hn;refine⟨⟨k+1,some ⟨gg,0,none⟩,cc,Ku,by omega,by go_num,?_,?_,?_,cp o1 (λy hy=>fr.dis y eK) N1,cp o2 (λy hy=>fr.dis y eK) N2,cp o3 (λy hy=>fr.dis y eK) N3,cp o4 (λy hy=>fr.dis y eK) N4,?_,?_⟩,?_⟩
 ·exact((kg.next jb).mod md dg).set_ 2 _
 ·exact((kH.next jb).mod md (Iq.notin dP)).pk ig
 ·rw[HY,aI,br,bL];exact ft TG ng
 ·exact Fresh.repl fr LL dP hG.2 dP ap
 ·exact ie (jN (bb.trans (jb.mono bb.size)) md (λy hy=>by have:=Iq.2 y hy;omega) eA) ig
 ·exact((kR.next jb).mod md (Iq.notin dP)).pk ig
def ldP (h:Hp) (d:Nat):Prop:=∀(k:Int) (cs:List Value) (w:World),rep w w.heap.size h.toD cs->depD h d k=true->Calls prog 53 #[av cs,k] w (gM (asm h d k).toD 38 w)
theorem Ea (h:Hp) (hz:szD h.toD<=4194304) (d:Nat) (ih:∀d',d=d'+1->ldP h d'):ldP h d:=by
 intro k cs w hr hd;obtain⟨j,x,rfl,hjl,hx,hxv,h40,hps,Un⟩:=Jo hd;have hcz:=wI h (j:Int);rw[iI hx]at hcz;obtain⟨A,n,c,Am,nm,cm,As,ns,ca,rfl,rc,rn,rs,wc⟩:=iP hr;have hl:=(ef rc).1;rw[au]at hl;obtain⟨b,off,x',Ai,ni,ci,Ap,np,cp,An,nn,cn,Ac,nc,cc,Al,nl,cl,Aq,nq,cq,rfl,gD,qD,fE,e0,e1,e2,e3,e4,e5,e6,e7,e8,e9⟩:=lm rc (k:=j) dP;rw[hx]at qD;injection qD with qD;subst qD;obtain⟨_,_,_,_,_,_,_,_,_,_,_,_,_,_,_,WQ,Yp,Xi,lK,wcn,rv,rq⟩:=i8 fE;simp only[bF,bG,dy,cO]at lK;obtain⟨⟨rfl,rfl,rfl⟩,⟨rfl,rfl,rfl⟩,⟨rfl,rfl,rfl⟩,⟨rfl,rfl,rfl⟩,⟨rfl,rfl,rfl⟩,rfl,rfl,rfl⟩:=lK;obtain⟨WQ,Yp,Xi,he,hqc,hqm,hq,_⟩:=(qy _ _ _ _).1 rq;injection he with he;injection he with f1 f2 f3;subst f1 f2 f3
 have Px:=hq.len;have hnq:nq<=40:=dP;have bj:(j:Int)<(n:Int):=dP;have bj0:(0:Int)<=(j:Int):=dP;have q0:=((Below.refl w.heap.size w).alloc (af _) (.cells #[.slice (some ⟨b,off,none⟩) n c,.slice Am nm cm,.slice As ns ca,h.copies] 28)).alloc eA (.cells #[.int .i64 0,(),(),(),(),(),.int .i64 0,.int .i64 0] 38);have kH:Blk ((w.alloc (.cells #[.slice (some ⟨b,off,none⟩) n c,.slice Am nm cm,.slice As ns ca,h.copies] 28)).alloc (.cells #[.int .i64 0,(),(),(),(),(),.int .i64 0,.int .i64 0] 38)) w.heap.size 28 [.slice (some ⟨b,off,none⟩) n c,.slice Am nm cm,.slice As ns ca,h.copies]:=(Blk.new' (l:=[.slice (some ⟨b,off,none⟩) n c,.slice Am nm cm,.slice As ns ca,.int .i64 h.copies])).al;have kR:Blk ((w.alloc (.cells #[.slice (some ⟨b,off,none⟩) n c,.slice Am nm cm,.slice As ns ca,h.copies] 28)).alloc (.cells #[.int .i64 0,(),(),(),(),(),.int .i64 0,.int .i64 0] 38)) (w.heap.size+1) 38 [.int .i64 0,(),(),(),(),(),.int .i64 0,.int .i64 0]:=by have:=Blk.new' (w:=w.alloc (.cells #[.slice (some ⟨b,off,none⟩) n c,.slice Am nm cm,.slice As ns ca,h.copies] 28)) (t:=38) (l:=[.int .i64 0,.slice none 0 0,.slice none 0 0,.slice none 0 0,.slice none 0 0,.slice none 0 0,.int .i64 0,.int .i64 0]);simpa only[dT]using this
 have HX:=aa hx;have HXV:=aa hxv;have xo:=aa ih;have HPS:=aa hps;have acV:=aa Un;have HQL:=aa Px;have HR:=aa hr;clear hx hxv ih hps Un Px hr hd hl;have rv0:=fb rv q0 q0.size;have zv0:szD x.value.toD<=500000000000:=dP;go_enter func53,ntmps53;go_wp2_with fail;refine(tZ x.value HXV.out _ _ rv0 zv0).mono ?_;rintro e w1 ⟨cs1,G,rfl,o1,AP,hb1⟩;obtain⟨A1,n1,c1,A5,n5,c5,A2,n2,c2,A3,n3,c3,A4,n4,c4,F1,F5,F2,F3,F4,rfl,rfl,wk,p1,p5,p2,p3,p4,xF,I9⟩:=uT o1;rw[HXV.out]at p5;obtain rfl:=NI p5;obtain⟨hc1,hf1⟩:=fY hb1;have z1:=hb1.size;(try simp only[dW,dT,dX]at hc1 hf1 z1);have kH1:=kH.next hb1;have ZP:=kR.next hb1;have yb:b<w1.heap.size:=dP;have y0:w.heap.size<w1.heap.size:=dP;have y1:w.heap.size+1<w1.heap.size:=dP;have q1:=ij q0 hb1;have e9':=e9;have e9:=(q1.cell (p:=⟨b,off+j*10+9,none⟩) gD).trans e9;obtain⟨g0,g1,g2,g3⟩:=kH1.c4;clear e0 e1 e2 e3 e4 e5 e6 e7 e8 hc1 hf1;go_wp2_with fail;have H9:=aa e9';clear g0 g1 g2 g3 e9 e9';have kg:Blk (w1.alloc (.cells #[x.value.kind,.slice A1 n1 c1,.slice A5 0 c5,.slice A2 n2 c2,.slice A3 n3 c3,.slice A4 n4 c4,x.value.code,x.value.env] 38)) w1.heap.size 38 [x.value.kind,.slice A1 n1 c1,.slice A5 0 c5,.slice A2 n2 c2,.slice A3 n3 c3,.slice A4 n4 c4,x.value.code,x.value.env]:=Blk.new';have qa:=(Below.refl w1.heap.size w1).alloc (af _) (.cells #[x.value.kind,.slice A1 n1 c1,.slice A5 0 c5,.slice A2 n2 c2,.slice A3 n3 c3,.slice A4 n4 c4,x.value.code,x.value.env] 38);have l1:=gC o1;go_loopw [6] (λi wr=>asL x.value (x.parts.map (asm h (d - 1))) h w w (w.heap.size+2) [.slice (some ⟨b,off,none⟩) n c,.slice Am nm cm,.slice As ns ca,h.copies] nq w1.heap.size A1 n1 c1 A2 n2 c2 A3 n3 c3 A4 n4 c4 F1 F2 F3 F4 i wr/\Blk wr (w.heap.size+1) 38 zV) (λi _=>nq - (intOf i).toNat)
 case atStart=>
  refine⟨⟨0,A5,c5,F5,by omega,rfl,kg,kH1.al,by simpa using fK p5,fK p1,fK p2,fK p3,fK p4,?_,gT q1 q1.size⟩,ZP.al⟩;have f1:Fresh (w.heap.size+2) (w1.heap.size::(F1++(F5++(F2++(F3++F4))))):=Fresh.cons (l1.notin (af _)) dP (AP.mono eA);exact f1.perm (List.perm_iff_count.2 λa=>by simp only[bT,cX];omega)
 case round=>
  clear kg kH1 ZP p1 p2 p3 p4 p5 qa o1 l1;obtain⟨⟨k,Ao,co,FP,hk,rfl,kg,kH,oP,o1,o2,o3,o4,fr,bb⟩,kR⟩:=hrel;have z0:=bb.size;have XK:=kg.lt;have yb:b<wr.heap.size:=dP;have yh:w.heap.size<wr.heap.size:=dP;obtain⟨g0,g1,g2,g3⟩:=kH.c4;by_cases hlt:k<nq
  ·obtain⟨bq,oq,y,rfl,hbq,hy,hcq⟩:=(hq.below bb).at_ hlt;have c0:=hcq 0 _ rfl;simp only[cu,cF]at c0;have HY:=aa (eJ (l:=x.parts.map (asm h (d - 1))) (k:=k) (x:=asm h (d - 1) y) (by rw[cg,hy];rfl));obtain⟨d',hd',hdy⟩:=HPS.out y (aA hy);have HP:=aa (xo.out d' hd');have HD:Hid (d - 1=d'):=aa dP;have HDY:=aa hdy;have HY2:Hid ((x.parts.map (asm h (d - 1))).take (k+1)=(x.parts.map (asm h (d - 1))).take k++[asm h d' y]):=aa (by rw[<-HD.out];exact HY.out);have ry:=fb HR.out bb bb.size;have hyb:bq<wr.heap.size:=dP;have HC0:Hid (w.cell? ⟨bq,oq+k,none⟩=some (.int .i64 y)):=aa ((bb.cell (p:=⟨bq,oq+k,none⟩) hbq).symm.trans c0);clear hcq hy hd' hdy;have e9w:=(bb.cell (p:=⟨b,off+j*10+9,none⟩) gD).trans H9.out;have eg:=kg.cell 2;simp only[ah,ag]at eg;have zf:=kg.frozen 2;have lP:=gC oP;have Iq:=fr.left;have dg:=fr.dis w1.heap.size aT;go_wp2_with fail;have SL:∀W:World,Below w.heap.size w W->Blk W w.heap.size 28 [.slice (some ⟨b,off,none⟩) n c,.slice Am nm cm,.slice As ns ca,h.copies]->(W.cell? ⟨w.heap.size,0,none⟩=some (.slice (some ⟨b,off,none⟩) n c)/\W.cell? ⟨w.heap.size,1,none⟩=some (.slice Am nm cm)/\W.cell? ⟨w.heap.size,2,none⟩=some (.slice As ns ca)/\W.cell? ⟨w.heap.size,3,none⟩=some (.int .i64 h.copies)/\W.cell? ⟨b,off+j*10+9,none⟩=some (.slice (some ⟨bq,oq,none⟩) nq cq)/\W.cell? ⟨bq,oq+k,none⟩=some (.int .i64 y)):=λW hW kW=>by obtain⟨g0,g1,g2,g3⟩:=kW.c4;exact⟨g0,g1,g2,g3,(hW.cell (p:=⟨b,off+j*10+9,none⟩) gD).trans H9.out,(hW.cell (p:=⟨bq,oq+k,none⟩) hbq).trans HC0.out⟩
   have S0:=SL wr.drew bb.drew kH;have xp:=aa SL;clear SL;refine aW (S:=λW=>W.cell? ⟨w.heap.size,0,none⟩=some (.slice (some ⟨b,off,none⟩) n c)/\W.cell? ⟨w.heap.size,1,none⟩=some (.slice Am nm cm)/\W.cell? ⟨w.heap.size,2,none⟩=some (.slice As ns ca)/\W.cell? ⟨w.heap.size,3,none⟩=some (.int .i64 h.copies)/\W.cell? ⟨b,off+j*10+9,none⟩=some (.slice (some ⟨bq,oq,none⟩) nq cq)/\W.cell? ⟨bq,oq+k,none⟩=some (.int .i64 y)) dU S0 (λhH=>?_);clear S0;refine k_ 0 ?_;refine k_ 2 ?_;refine k_ 3 ?_;refine k_ 4 ?_;refine k_ 5 ?_;refine k_ 6 ?_;refine k_ 7 ?_;refine k_ 8 ?_;refine k_ 9 ?_;refine k_ 10 ?_;refine k_ 11 ?_;refine dG (rs:=[1,12]) dU dR (λi hi=>?_);simp only[aX,df,ce]at hi;rcases hi with rfl|rfl;all_goals refine dD gO (λK hK=>?_)
   ·go_simp;refine hK _ _ ⟨by assumption,?_⟩;refine iW ?_;refine fZ 12 ?_;intro K hK;go_simp;go_at_call 53;refine(HP.out y _ _ (by(repeat'(first|with_reducible assumption|with_reducible refine kK ?_|with_reducible refine sL ?_|with_reducible refine fM ?_ dY))) HDY.out).mono ?_;rintro e w2 ⟨cs1,G1,rfl,Hz,Cf,jS⟩;obtain⟨Ci,ki,ei,Cp,kp,ep,Cn,kn,en,Cc,kc,ec,Cl,kl,el,rfl,_⟩:=fw (eW _ _ _ _ Hz);have z2:=jS.size;simp only[dW]at z2 Cf;have YQ:=gR (jR bb) jS si;have Ye:=kH.dw.next jS;have SS2:=xp.out w2 YQ Ye;have eg2:=(kg.dw.next jS).cell 2;simp only[ah,ag]at eg2;refine hK _ _ ⟨SS2,?_⟩;refine iW ?_;refine fZ 13 ?_;intro K hK;go_simp;have SS3:=xp.out (w2.alloc (.cells #[.int .i64 (asm h d' y).kind,.slice Ci ki ei,.slice Cp kp ep,.slice Cn kn en,.slice Cc kc ec,.slice Cl kl el,.int .i64 (asm h d' y).code,.int .i64 (asm h d' y).env] 38)) (gT YQ dP) Ye.al;have eg3:=(kg.dw.next jS).al (o:= .cells #[.int .i64 (asm h d' y).kind,.slice Ci ki ei,.slice Cp kp ep,.slice Cn kn en,.slice Cc kc ec,.slice Cl kl el,.int .i64 (asm h d' y).code,.int .i64 (asm h d' y).env] 38) |>.cell 2
    simp only[ah,ag]at eg3;refine hK _ _ ⟨SS3,?_⟩;refine iW ?_;refine fZ 14 ?_;intro K hK;refine gL (A:=Ao) (n:=k) (c:=co) (b:=w2.heap.size) (m:=1) (xs:=((x.parts.map (asm h (d - 1))).take k).map Vec.toD) (F:=FP) (d:=(asm h d' y).toD) (F':=G1) (te:=38) (cs:=[.int .i64 (asm h d' y).kind,.slice Ci ki ei,.slice Cp kp ep,.slice Cn kn en,.slice Cc kc ec,.slice Cl kl el,.int .i64 (asm h d' y).code,.int .i64 (asm h d' y).env]) jM ?_ ?_ (.tmp 26) (.tmp 38) ?_ ?_ ?_ ?_ ?_ ?_ ?_ ?_ ?_ ?_ ?_
    ·kernel_rfl
    ·rfl
    ·rfl
    ·rfl
    ·exact fK (em (gX oP) jS)
    ·rfl
    ·exact uv
    ·exact yf
    ·rfl
    ·exact(Fresh.app2 lP Iq Cf dP).1
    ·exact g8
    ·omega
    intro gg cc w3 Ku TG KD rN;simp only[dT]at KD;have NX:=Dg (h:=h) hlt HY2.out kg kH oP o1 o2 o3 o4 fr bb kR XK dP jS Cf KD rN TG;have kg2:=Blk.mod (t:=38) (cs:=[.int .i64 x.value.kind,.slice A1 n1 c1,.slice Ao k co,.slice A2 n2 c2,.slice A3 n3 c3,.slice A4 n4 c4,.int .i64 x.value.code,.int .i64 x.value.env]) ((kg.dw.next jS).al) rN dg;have eg4:=kg2.cell 2;simp only[ah,ag]at eg4;have zf4:=kg2.frozen 2;have sB3:=jN (gT (o:= .cells #[.int .i64 (asm h d' y).kind,.slice Ci ki ei,.slice Cp kp ep,.slice Cn kn en,.slice Cc kc ec,.slice Cl kl el,.int .i64 (asm h d' y).code,.int .i64 (asm h d' y).env] 38) YQ dP) rN (λy hy=>by have:=Iq.2 y hy;omega) eA;have kH3:=(Ye.al (o:= .cells #[.int .i64 (asm h d' y).kind,.slice Ci ki ei,.slice Cp kp ep,.slice Cn kn en,.slice Cc kc ec,.slice Cl kl el,.int .i64 (asm h d' y).code,.int .i64 (asm h d' y).env] 38)).mod rN (Iq.notin dP);have Ze:=xp.out w3 sB3 kH3;have NX2:=aa NX;obtain⟨⟨_,_,_,_,_,_,_,ZO,_,_,_,_,_,_,Jg⟩,_⟩:=NX;have Zf:=xp.out _ Jg ZO;have HS5:=aa Zf;clear Zf Jg ZO;refine hK _ _ ⟨Ze,?_⟩;refine iW ?_;refine fZ 15 ?_;intro K hK;go_simp;refine hK _ _ ⟨Ze,?_⟩;refine iW ?_;refine fZ 16 ?_;intro K hK;go_simp;refine hK _ _ ⟨HS5.out,?_⟩;refine iW ?_;refine bv dU ?_ _;go_wp2_with fail;go_roundw
    case rel=>exact NX2.out
    case measure=>simp [intOf];omega
   ·go_simp;go_at_call 53;refine(HP.out y _ _ (by(repeat'(first|with_reducible assumption|with_reducible refine kK ?_|with_reducible refine sL ?_|with_reducible refine fM ?_ dY))) HDY.out).mono ?_;rintro e w2 ⟨cs1,G1,rfl,Hz,Cf,jS⟩;obtain⟨Ci,ki,ei,Cp,kp,ep,Cn,kn,en,Cc,kc,ec,Cl,kl,el,rfl,_⟩:=fw (eW _ _ _ _ Hz);have z2:=jS.size;simp only[dW]at z2 Cf;have YQ:=gR (jR bb) jS si;have Ye:=kH.dw.next jS;have SS2:=xp.out w2 YQ Ye;have eg2:=(kg.dw.next jS).cell 2;simp only[ah,ag]at eg2;refine hK _ _ ⟨SS2,?_⟩;refine iW ?_;refine dG (rs:=[1,13]) dU dR (λi hi=>?_);simp only[aX,df,ce]at hi;rcases hi with rfl|rfl;all_goals refine dD gO (λK hK=>?_)
    ·go_simp;refine hK _ _ ⟨by assumption,?_⟩;refine iW ?_;refine fZ 13 ?_;intro K hK;go_simp;have SS3:=xp.out (w2.alloc (.cells #[.int .i64 (asm h d' y).kind,.slice Ci ki ei,.slice Cp kp ep,.slice Cn kn en,.slice Cc kc ec,.slice Cl kl el,.int .i64 (asm h d' y).code,.int .i64 (asm h d' y).env] 38)) (gT YQ dP) Ye.al;have eg3:=(kg.dw.next jS).al (o:= .cells #[.int .i64 (asm h d' y).kind,.slice Ci ki ei,.slice Cp kp ep,.slice Cn kn en,.slice Cc kc ec,.slice Cl kl el,.int .i64 (asm h d' y).code,.int .i64 (asm h d' y).env] 38) |>.cell 2
     simp only[ah,ag]at eg3;refine hK _ _ ⟨SS3,?_⟩;refine iW ?_;refine fZ 14 ?_;intro K hK;refine gL (A:=Ao) (n:=k) (c:=co) (b:=w2.heap.size) (m:=1) (xs:=((x.parts.map (asm h (d - 1))).take k).map Vec.toD) (F:=FP) (d:=(asm h d' y).toD) (F':=G1) (te:=38) (cs:=[.int .i64 (asm h d' y).kind,.slice Ci ki ei,.slice Cp kp ep,.slice Cn kn en,.slice Cc kc ec,.slice Cl kl el,.int .i64 (asm h d' y).code,.int .i64 (asm h d' y).env]) jM ?_ ?_ (.tmp 26) (.tmp 38) ?_ ?_ ?_ ?_ ?_ ?_ ?_ ?_ ?_ ?_ ?_
     ·kernel_rfl
     ·rfl
     ·rfl
     ·rfl
     ·exact fK (em (gX oP) jS)
     ·rfl
     ·exact uv
     ·exact yf
     ·rfl
     ·exact(Fresh.app2 lP Iq Cf dP).1
     ·exact g8
     ·omega
     intro gg cc w3 Ku TG KD rN;simp only[dT]at KD;have NX:=Dg (h:=h) hlt HY2.out kg kH oP o1 o2 o3 o4 fr bb kR XK dP jS Cf KD rN TG;have kg2:=Blk.mod (t:=38) (cs:=[.int .i64 x.value.kind,.slice A1 n1 c1,.slice Ao k co,.slice A2 n2 c2,.slice A3 n3 c3,.slice A4 n4 c4,.int .i64 x.value.code,.int .i64 x.value.env]) ((kg.dw.next jS).al) rN dg;have eg4:=kg2.cell 2;simp only[ah,ag]at eg4;have zf4:=kg2.frozen 2;have sB3:=jN (gT (o:= .cells #[.int .i64 (asm h d' y).kind,.slice Ci ki ei,.slice Cp kp ep,.slice Cn kn en,.slice Cc kc ec,.slice Cl kl el,.int .i64 (asm h d' y).code,.int .i64 (asm h d' y).env] 38) YQ dP) rN (λy hy=>by have:=Iq.2 y hy;omega) eA;have kH3:=(Ye.al (o:= .cells #[.int .i64 (asm h d' y).kind,.slice Ci ki ei,.slice Cp kp ep,.slice Cn kn en,.slice Cc kc ec,.slice Cl kl el,.int .i64 (asm h d' y).code,.int .i64 (asm h d' y).env] 38)).mod rN (Iq.notin dP);have Ze:=xp.out w3 sB3 kH3;have NX2:=aa NX;obtain⟨⟨_,_,_,_,_,_,_,ZO,_,_,_,_,_,_,Jg⟩,_⟩:=NX;have Zf:=xp.out _ Jg ZO;have HS5:=aa Zf;clear Zf Jg ZO;refine hK _ _ ⟨Ze,?_⟩;refine iW ?_;refine fZ 15 ?_;intro K hK;go_simp;refine hK _ _ ⟨Ze,?_⟩;refine iW ?_;refine fZ 16 ?_;intro K hK;go_simp;refine hK _ _ ⟨HS5.out,?_⟩;refine iW ?_;refine bv dU ?_ _;go_wp2_with fail;go_roundw
     case rel=>exact NX2.out
     case measure=>simp [intOf];omega
    ·go_simp;have SS3:=xp.out (w2.alloc (.cells #[.int .i64 (asm h d' y).kind,.slice Ci ki ei,.slice Cp kp ep,.slice Cn kn en,.slice Cc kc ec,.slice Cl kl el,.int .i64 (asm h d' y).code,.int .i64 (asm h d' y).env] 38)) (gT YQ dP) Ye.al;have eg3:=(kg.dw.next jS).al (o:= .cells #[.int .i64 (asm h d' y).kind,.slice Ci ki ei,.slice Cp kp ep,.slice Cn kn en,.slice Cc kc ec,.slice Cl kl el,.int .i64 (asm h d' y).code,.int .i64 (asm h d' y).env] 38) |>.cell 2
     simp only[ah,ag]at eg3;refine hK _ _ ⟨SS3,?_⟩;refine iW ?_;refine fZ 1 ?_;intro K hK;go_simp;refine hK _ _ ⟨by assumption,?_⟩;refine iW ?_;refine fZ 14 ?_;intro K hK;refine gL (A:=Ao) (n:=k) (c:=co) (b:=w2.heap.size) (m:=1) (xs:=((x.parts.map (asm h (d - 1))).take k).map Vec.toD) (F:=FP) (d:=(asm h d' y).toD) (F':=G1) (te:=38) (cs:=[.int .i64 (asm h d' y).kind,.slice Ci ki ei,.slice Cp kp ep,.slice Cn kn en,.slice Cc kc ec,.slice Cl kl el,.int .i64 (asm h d' y).code,.int .i64 (asm h d' y).env]) jM ?_ ?_ (.tmp 26) (.tmp 38) ?_ ?_ ?_ ?_ ?_ ?_ ?_ ?_ ?_ ?_ ?_
     ·kernel_rfl
     ·rfl
     ·rfl
     ·rfl
     ·exact fK (em (gX oP) jS)
     ·rfl
     ·exact uv
     ·exact yf
     ·rfl
     ·exact(Fresh.app2 lP Iq Cf dP).1
     ·exact g8
     ·omega
     intro gg cc w3 Ku TG KD rN;simp only[dT]at KD;have NX:=Dg (h:=h) hlt HY2.out kg kH oP o1 o2 o3 o4 fr bb kR XK dP jS Cf KD rN TG;have kg2:=Blk.mod (t:=38) (cs:=[.int .i64 x.value.kind,.slice A1 n1 c1,.slice Ao k co,.slice A2 n2 c2,.slice A3 n3 c3,.slice A4 n4 c4,.int .i64 x.value.code,.int .i64 x.value.env]) ((kg.dw.next jS).al) rN dg;have eg4:=kg2.cell 2;simp only[ah,ag]at eg4;have zf4:=kg2.frozen 2;have sB3:=jN (gT (o:= .cells #[.int .i64 (asm h d' y).kind,.slice Ci ki ei,.slice Cp kp ep,.slice Cn kn en,.slice Cc kc ec,.slice Cl kl el,.int .i64 (asm h d' y).code,.int .i64 (asm h d' y).env] 38) YQ dP) rN (λy hy=>by have:=Iq.2 y hy;omega) eA;have kH3:=(Ye.al (o:= .cells #[.int .i64 (asm h d' y).kind,.slice Ci ki ei,.slice Cp kp ep,.slice Cn kn en,.slice Cc kc ec,.slice Cl kl el,.int .i64 (asm h d' y).code,.int .i64 (asm h d' y).env] 38)).mod rN (Iq.notin dP);have Ze:=xp.out w3 sB3 kH3;have NX2:=aa NX;obtain⟨⟨_,_,_,_,_,_,_,ZO,_,_,_,_,_,_,Jg⟩,_⟩:=NX;have Zf:=xp.out _ Jg ZO;have HS5:=aa Zf;clear Zf Jg ZO;refine hK _ _ ⟨Ze,?_⟩;refine iW ?_;refine fZ 15 ?_;intro K hK;go_simp;refine hK _ _ ⟨Ze,?_⟩;refine iW ?_;refine fZ 16 ?_;intro K hK;go_simp;refine hK _ _ ⟨HS5.out,?_⟩;refine iW ?_;refine bv dU ?_ _;go_wp2_with fail;go_roundw
     case rel=>exact NX2.out
     case measure=>simp [intOf];omega
  ·obtain rfl:k=nq:=dP;obtain⟨r0,r1,r2,r3,r4,r5,r6,r7⟩:=kR.c8;have Cz:w.heap.size+1<wr.heap.size:=dP;obtain⟨e0,e1,e2,e3,e4,e5,e6,e7⟩:=kg.c8;have zr:=λi=>kR.frozen i;have Tq:=zr 0;have zr1:=zr 1;have zr2:=zr 2;have zr3:=zr 3;have zr4:=zr 4;have zr5:=zr 5;have zr6:=zr 6;have zr7:=zr 7;have e9w:=(bb.cell (p:=⟨b,off+j*10+9,none⟩) gD).trans H9.out;clear zr;go_wp2_with fail;rw[aC (by rw[au,HQL.out];omega)]at oP;have hgR:w1.heap.size≠w.heap.size+1:=dP;refine bM (v:= .agg #[x.value.kind,.slice A1 n1 c1,.slice Ao k co,.slice A2 n2 c2,.slice A3 n3 c3,.slice A4 n4 c4,x.value.code,x.value.env]) (by simp [results,results53,go_sem,r0,r1,r2,r3,r4,r5,r6,r7,Cz]) rfl ⟨_,F1++(FP++(F2++(F3++(F4++[])))),rfl,?_,?_,?_⟩
   ·exact GB
   ·exact yF
   ·exact mg
theorem rV (h:Hp) (hz:szD h.toD<=4194304):∀d:Nat,ldP h d
 |0=>Ea h hz 0 (λd' e=>by omega)
 |d+1=>Ea h hz (d+1) (λd' e=>by obtain rfl:d=d':=dP;exact rV h hz d)
def slotD (h:Hp) (s:Str):Int:=(h.slots[(ix h.names s 0).toNat]?).getD 0
def hasN (h:Hp) (s:Str):Bool:=decide (0<=ix h.names s 0)
def cellD (h:Hp) (s:Str):Int:=if hasN h s=true then slotD h s else -1
def acD (h:Hp) (s:Str):Vec × Bool:=if fG h&&hasN h s then (asm h 3 (slotD h s),true) else (zeroV,false)
theorem acT (h1:fG h=true) (h2:hasN h s=true):acD h s=(asm h 3 (slotD h s),true):=by simp [acD,h1,h2]
theorem acI (h1:fG h=false\/hasN h s=false):acD h s=(zeroV,false):=by rcases h1 with h1|h1<;>simp [acD,h1]
theorem jc (hk:fG h=true):h.names.length=h.slots.length/\i_ (m9 (lM h.cells.length (refs h))) h.cells=true/\i_ (λi s=>s7 h i s ((h.slots[i]?).getD 0)) h.names=true:=by simp only[fG,ax,aL]at hk;exact⟨hk.1.1.1.1,hk.1.2,hk.2⟩
theorem BA (hk:fG h=true) (hn:hasN h s=true):
 ∃i:Nat,ix h.names s 0=(i:Int)/\i<h.slots.length/\h.slots[i]?=some (slotD h s)/\0<=slotD h s/\slotD h s<h.cells.length/\depD h 3 (slotD h s)=true/\isVec (asm h 3 (slotD h s))=true:=by
 obtain⟨h1,h2,h3⟩:=jc hk;simp only[hasN,aL]at hn;have hg:=(pY h.names s 0).2;obtain⟨i,hi⟩:=bQ hn;have hil:i<h.slots.length:=dP;have hx:h.names[i]?=some (h.names[i]' dP):=aw dP;have hs:h.slots[i]?=some (slotD h s):=by unfold slotD;rw[hi,aU,aw hil];rfl
 have h4:=iC.1 h3 i _ hx;simp only[hs,bV,s7,ax]at h4;have h5:∀c∈h.cells,c.value.parts.length=0:=by intro c hc;obtain⟨j,hj,rfl⟩:=List.getElem_of_mem hc;have h6:=iC.1 h2 j _ (aw hj);simp only[m9,ax,aL]at h6;exact h6.1.2
 have hd:depD h 3 (slotD h s)=true:=by rw[Cx h5];exact h4.1.2
 have hr:=j7 (zp hd);simp only[inR,aL]at hr;exact⟨i,hi,hil,hs,hr.1,hr.2,hd,h4.2⟩
theorem kY {e:TypeId} (ht:P.underlying t=some (.slice e)):own P w (.sl []) t [] [()]:=by rw[own];exact⟨e,none,0,0,P.cellsOf e,[],[],ht,rfl,rfl,by unfold maxLen;omega,Own.nil_,rfl,by rw[iv];exact⟨rfl,rfl⟩⟩
theorem ST (w:World):own prog w zeroV.toD 38 [] [.int .i64 0,(),(),(),(),(),.int .i64 0,.int .i64 0]:=by
 refine jD (x:=zeroV) (Fitems:=[]) (Fparts:=[]) (Fnames:=[]) (Fcls:=[]) (Flevels:=[]) dQ ?_ ?_ ?_ ?_ ?_ dQ dQ
 ·exact kY underlying35
 ·exact kY underlying36
 ·exact kY underlying25
 ·exact kY underlying25
 ·exact kY underlying25
theorem tJ (h:Hp) (hl:h.names.length=h.slots.length) (s:Str) (cs:List Value) (w:World) (hr:rep w w.heap.size h.toD cs):
 Calls prog 38 #[av cs,sv s] w λe w'=>e= .returned (.int .i64 (cellD h s))/\Below w.heap.size w w':=by
 obtain⟨A,n,c,Am,nm,cm,As,ns,ca,rfl,rc,rn,rs,wc⟩:=iP hr;obtain⟨Wl,WG,ca',he,hsc,hsm,hs,_⟩:=(qy _ _ _ _).1 rs;injection he with he;injection he with f1 f2 f3;subst f1 f2 f3
 obtain⟨Am',nm',cm',he,hmc,hmm,hm,Ng⟩:=(ls _ _ _ _).1 rn;injection he with he;injection he with f1 f2 f3;subst f1 f2 f3
 have q0:=(Below.refl w.heap.size w).alloc (af _) (.cells #[.slice A n c,.slice Am nm cm,.slice As ns ca,h.copies] 28);have hg:=(pY h.names s 0).2;have AR:=hm.len;have xf:=hs.len;have R5:=jx Am nm cm h.names s (w.alloc (.cells #[.slice A n c,.slice Am nm cm,.slice As ns ca,h.copies] 28)) (hm.next q0) dP;cases hn:hasN h s with
 |false=>
  have hc:cellD h s= -1:=by simp [cellD,hn]
  have h0:ix h.names s 0<0:=by simp only[hasN,bB]at hn;omega
  have HC:=aa hc;clear hc hn hl AR xf hg;go_enter func38,ntmps38;go_wp2_with fail;refine R5.mono ?_;rintro e w1 ⟨rfl,rfl⟩;go_wp2_with fail;go_ret;exact⟨eZ HC.out.symm,q0⟩
 |true=>
  have hc:cellD h s=slotD h s:=by simp [cellD,hn]
  have h0:0<=ix h.names s 0:=by simpa [hasN]using hn
  obtain⟨i,hi⟩:=bQ h0;rw[hi]at R5 hg;obtain⟨bs,os,k,rfl,hbs,hk,Sk⟩:=(hs.below q0).atI (k:=i) dP;have hks:slotD h s=k:=by unfold slotD;rw[hi,aU,hk];rfl
  have hlt:(i:Int)<(ns:Int):=dP;have HC:=aa (hc.trans hks);clear hc hks hn hl AR xf hg hi h0 hk;go_enter func38,ntmps38;go_wp2_with fail;refine R5.mono ?_;rintro e w1 ⟨rfl,rfl⟩;go_wp2_with fail;go_ret;exact⟨eZ HC.out.symm,q0⟩
def ju (w:World) (g:Nat):Nat->List Value->Prop
 |_,[]=>True
 |k,v::t=>w.cell? ⟨g,k,none⟩=some v/\ju w g (k+1) t
theorem Mx {w:World} {g:Nat} {t:TypeId} {cs:List Value} (h:Blk w g t cs):∀(l:List Value) (k:Nat),(∀i,l[i]?=cs[k+i]?)->ju w g k l
 |[],_,_=>bO
 |v::l,k,hl=>⟨by rw[h.cell,<-cF k,<-hl 0];rfl,Mx h l (k+1) λi=>by have:=hl (i+1);rw[ag]at this;rw[this];congr 1;omega⟩
theorem Blk.cells (h:Blk w g t cs):ju w g 0 cs:=Mx h cs 0 λi=>by rw[bI]
def Rj (L:List As) (k:Nat):List As:=match L[k]? with
 |some x=>x::L.eraseIdx k
 |none=>L.eraseIdx k
def Rk:List Nat->List As->List As
 |[],L=>L
 |k::t,L=>Rk t (Rj L k)
theorem PW (L:List As) (k:Nat):L.Perm (Rj L k):=by
 unfold Rj;cases h:L[k]? with
 |none=>simp only;rw[List.eraseIdx_of_length_le (List.getElem?_eq_none_iff.1 h)]
 |some x=>exact wX h
theorem EB:∀(ks:List Nat) (L:List As),L.Perm (Rk ks L)
 |[],L=> .refl _
 |k::t,L=>(PW L k).trans (EB t _)
theorem NK {y x:As}:∀{L:List As} {r:Nat},L[r]?=some x->(y::L.eraseIdx r).Perm (L.set r y)
 |[],_,h=>by simp at h
 |a::t,0,h=> .refl _
 |a::t,r+1,h=>by simp at h;exact(List.Perm.swap a y _).trans ((NK h).cons a)
inductive Puts (g:Nat) (w:World) (cs:List Value):World->List Value->Prop
 |nil:Puts g w cs w cs
 |cons {w1:World} {cs1:List Value} {k:Nat} {u:Value}:Puts g w cs w1 cs1->Puts g w cs (w1.setCell ⟨g,k,none⟩ u) (cs1.set k u)
section
variable {P:Program} {ops:Array Oper} {Q:Exit->Act->World->Prop} {o:Oper} {rest:List Oper} {D0:List Deferred} {T T':Array Value} {w w' w0:World} {X:List Nat} {L L':List As} {g:Nat} {t e:TypeId} {cs cs':List Value}
theorem Mem.up (h:Mem P w0 X w L) (ks:List Nat) (hL:Rk ks L=L':=by(simp only[Rk,Rj,ag,ah,List.eraseIdx_cons_succ,List.eraseIdx_cons_zero])<;>with_reducible rfl):Mem P w0 X w L':=by subst hL;exact h.perm (EB ks L)
theorem Mem.puts {R:List As} (hp:Puts g w cs w' cs') (M:Mem P w0 X w (.bk g t cs::R)):Mem P w0 X w' (.bk g t cs'::R):=by
 induction hp with
 |nil=>exact M
 |cons _ ih=>exact ih.put _ _
theorem Mem.putAt (M:Mem P w0 X w L) {r:Nat} (hr:L[r]?=some (.bk g t cs)) (hp:Puts g w cs w' cs'):Mem P w0 X w' (L.set r (.bk g t cs')):=
 ((Mem.puts hp (M.perm (wX hr))).perm (NK hr))
def wpN (P:Program) (ops:Array Oper) (K:Act->World->Prop) (Z:Exit->Act->World->Prop):List Oper->Act->World->Prop
 |[],a,w=>K a w
 |o::t,a,w=>if Region.wanted o (yielded ops a.tmps)=true then Oper.wp P o a w (wpN P ops K Z t) Z else wpN P ops K Z t (a.put o.dst undef) w
theorem FK:∀(n:Nat) (os:List Oper) (a:Act) (w:World),wpN P ops (wpList P ops Q (os.drop n)) Q (os.take n) a w->wpList P ops Q os a w
 |0,os,a,w,h=>by simpa [wpN]using h
 |n+1,[],a,w,h=>by simpa [wpN]using h
 |n+1,o::t,a,w,h=>by
  rw[cG,dN,wpN]at h;rw[wpList];split
  ·next hw=>
   rw[aN hw]at h;exact .inl (Oper.wp_mono (λa w h=>FK n t a w h) h)
  ·next hw=>
   rw[aH hw]at h;exact FK n t _ _ h
theorem FL {K K':Act->World->Prop} {Z:Exit->Act->World->Prop} (hk:∀a w,K a w->K' a w):∀(l:List Oper) (a:Act) (w:World),wpN P ops K Z l a w->wpN P ops K' Z l a w
 |[],a,w,h=>hk a w h
 |o::t,a,w,h=>by
  unfold wpN at h ⊢;split
  ·next hw=>rw[aN hw]at h;exact Oper.wp_mono (λa w h=>FL hk t a w h) h
  ·next hw=>rw[aH hw]at h;exact FL hk t _ _ h
structure BN (P:Program) (ops:Array Oper) (K:Act->World->Prop) (Z:Exit->Act->World->Prop) (l:List Oper) (a:Act) (w:World):Prop where
 out:wpN P ops K Z l a w
structure WL (P:Program) (ops:Array Oper) (Q:Exit->Act->World->Prop) (l:List Oper) (a:Act) (w:World):Prop where
 out:wpList P ops Q l a w
theorem Qu {K:Act->World->Prop} {Z:Exit->Act->World->Prop} {o:Oper} {t:List Oper} {a:Act} {w:World} (h:if Region.wanted o (yielded ops a.tmps)=true then Oper.wp P o a w (BN P ops K Z t) Z else BN P ops K Z t (a.put o.dst undef) w):BN P ops K Z (o::t) a w:=by
 constructor;unfold wpN;split
 ·next hw=>rw[aN hw]at h;exact Oper.wp_mono (λa w h=>h.out) h
 ·next hw=>rw[aH hw]at h;exact h.out
theorem Kt {K:Act->World->Prop} {Z:Exit->Act->World->Prop} {a:Act} {w:World} (h:K a w):BN P ops K Z [] a w:=⟨h⟩
theorem oL {o:Oper} {a:Act} {w:World} (h:∀K:Act->World->Prop,(∀a w,WL P ops Q rest a w->K a w)->if Region.wanted o (yielded ops a.tmps)=true then Oper.wp P o a w K Q else K (a.put o.dst undef) w):WL P ops Q (o::rest) a w:=⟨wpList_step λK hK=>h K λa w hl=>hK a w hl.out⟩
theorem Cu (n:Nat) (os:List Oper) (a:Act) (w:World) (h:BN P ops (WL P ops Q (os.drop n)) Q (os.take n) a w):WL P ops Q os a w:=⟨FK n os a w (FL (λa w h=>h.out) _ _ _ h.out)⟩
def xm (w:World) (L:List As):List Nat->Prop
 |[]=>True
 |r::t=>(match L[r]? with
  |some (.bk g _ cs)=>ju w g 0 cs
  |_=>True)/\xm w L t
theorem Mem.facts (M:Mem P w0 X w L):∀rs:List Nat,xm w L rs
 |[]=>bO
 |r::t=>⟨by
  split
  ·next h=>exact(M.bl r h).cells
  ·trivial,Mem.facts M t⟩
theorem Sb (M:Mem P w0 X w L) (rs:List Nat) (n:Nat) {os:List Oper} (h:WL P ops Q rest ⟨T',D0⟩ w) (h0:∀(K:Act->World->Prop) (Z:Exit->Act->World->Prop),xm w L rs->K ⟨T',D0⟩ w->BN P ops K Z (os.take n) ⟨T,D0⟩ w:=by intro K Z hc hK;(simp only[xm,ju,ag,ah,Nat.reduceAdd,and_assoc]at hc);(try simp only[cG,cL]);(repeat (refine Qu ?_;go_simp;(try(rw[FM];rotate_left;omega))));exact Kt hK) (hd:os.drop n=rest:=by(simp only[dN,Hc])<;>with_reducible rfl):WL P ops Q os ⟨T,D0⟩ w:=Cu n os _ _ (h0 _ _ (M.facts rs) (by rw[hd];exact h))
theorem Ra (M:Mem P w0 X w L) (rs:List Nat) {l:List Oper} {c:Code} {id:Nat} (h:c.wp P Q ⟨T',D0⟩ w) (h0:∀(K:Act->World->Prop) (Z:Exit->Act->World->Prop),xm w L rs->K ⟨T',D0⟩ w->BN P l.toArray K Z l ⟨T,D0⟩ w:=by intro K Z hc hK;(simp only[xm,ju,ag,ah,Nat.reduceAdd,and_assoc]at hc);(try simp only[cG,cL]);(repeat (refine Qu ?_;go_simp;(try(rw[FM];rotate_left;omega))));exact Kt hK):(Code.seq (.region id l.toArray false) c).wp P Q ⟨T,D0⟩ w:=
 ae (wp_region_lit (Cu (Q:=Exit.then (c.wp P Q) Q) l.length l _ _ (by rw[cC,List.drop_length];exact h0 _ _ (M.facts rs) ⟨wpList_nil (Q:=Exit.then (c.wp P Q) Q) h⟩)).out)
theorem Rb (M:Mem P w0 X w L) (rs:List Nat) {l:List Oper} {id:Nat} (h:Q .normal ⟨T',D0⟩ w) (h0:∀(K:Act->World->Prop) (Z:Exit->Act->World->Prop),xm w L rs->K ⟨T',D0⟩ w->BN P l.toArray K Z l ⟨T,D0⟩ w:=by intro K Z hc hK;(simp only[xm,ju,ag,ah,Nat.reduceAdd,and_assoc]at hc);(try simp only[cG,cL]);(repeat (refine Qu ?_;go_simp;(try(rw[FM];rotate_left;omega))));exact Kt hK):(Code.region id l.toArray false).wp P Q ⟨T,D0⟩ w:=
 wp_region_lit (Cu l.length l _ _ (by rw[cC,List.drop_length];exact h0 _ _ (M.facts rs) ⟨wpList_nil h⟩)).out
theorem So (v:Value) (h0:∀(K:Act->World->Prop) (Z:Exit->Act->World->Prop),K ((Act.mk T D0).put o.dst v) w->if Region.wanted o (yielded ops T)=true then Oper.wp P o ⟨T,D0⟩ w K Z else K ((Act.mk T D0).put o.dst undef) w) (h:WL P ops Q rest ⟨T',D0⟩ w) (hT:(Act.mk T D0).put o.dst v=⟨T',D0⟩:=by(simp only[Act.put,bh,a_,be])<;>with_reducible rfl):WL P ops Q (o::rest) ⟨T,D0⟩ w:=oL λK hK=>h0 K Q (hK _ _ (by rw[hT];exact h))
theorem Sf {p:Prop} (hp:p) (h:WL P ops Q rest ⟨T',D0⟩ w) (h0:∀(K:Act->World->Prop) (Z:Exit->Act->World->Prop),p->K ⟨T',D0⟩ w->if Region.wanted o (yielded ops T)=true then Oper.wp P o ⟨T,D0⟩ w K Z else K ((Act.mk T D0).put o.dst undef) w:=by intro K Z hc hK;go_simp;exact hK):WL P ops Q (o::rest) ⟨T,D0⟩ w:=oL λK hK=>h0 K Q hp (hK _ _ h)
theorem Ss (M:Mem P w0 X w L) (r:Nat) (h:∀w',Mem P w0 X w' L'->WL P ops Q rest ⟨T',D0⟩ w') (hr:L[r]?=some (.bk g t cs):=by rfl) (h0:∀(K:Act->World->Prop) (Z:Exit->Act->World->Prop),ju w g 0 cs->(∀i,w.frozen? ⟨g,i,none⟩=false)->g<w.heap.size->K ⟨T',D0⟩ w'->if Region.wanted o (yielded ops T)=true then Oper.wp P o ⟨T,D0⟩ w K Z else K ((Act.mk T D0).put o.dst undef) w:=by intro K Z hc hf hg hK;simp only[ju,Nat.reduceAdd]at hc;go_simp;exact hK) (hp:Puts g w cs w' cs':=by repeat (first|with_reducible exact Puts.nil|with_reducible apply Puts.cons)) (hL:L.set r (.bk g t cs')=L':=by(simp only[a_,be])<;>with_reducible rfl):WL P ops Q (o::rest) ⟨T,D0⟩ w:=
 oL λK hK=>h0 K Q (M.bl r hr).cells (M.bl r hr).frozen (M.bl r hr).lt (hK _ _ (h _ (by rw[<-hL];exact M.putAt hr hp)))
theorem Sa (M:Mem P w0 X w L) {T1:Nat->Array Value} (h:∀(x:Gh) w',Mem P w0 X w' (.bk x.b t cs::L)->WL P ops Q rest ⟨T1 x.b,D0⟩ w') (h0:∀b,w.heap.size=b->∀(K:Act->World->Prop) (Z:Exit->Act->World->Prop),K ⟨T1 b,D0⟩ (w.alloc (.cells cs.toArray t))->if Region.wanted o (yielded ops T)=true then Oper.wp P o ⟨T,D0⟩ w K Z else K ((Act.mk T D0).put o.dst undef) w:=by intro b hb K Z hK;go_simp;exact hK):WL P ops Q (o::rest) ⟨T,D0⟩ w:=
 oL λK hK=>h0 _ rfl K Q (hK _ _ (h (mA _) _ M.all))
theorem Se (M:Mem P w0 X w L) (ht:P.underlying t=some (.slice e)) {T1:Nat->Array Value} (h:∀(x:Gh) w',Mem P w0 X w' (.ow (.sl []) t [.slice (some ⟨x.b,0,none⟩) 0 0]::L)->WL P ops Q rest ⟨T1 x.b,D0⟩ w') (h0:∀b,w.heap.size=b->∀(K:Act->World->Prop) (Z:Exit->Act->World->Prop),K ⟨T1 b,D0⟩ (w.alloc (.cells #[] e))->if Region.wanted o (yielded ops T)=true then Oper.wp P o ⟨T,D0⟩ w K Z else K ((Act.mk T D0).put o.dst undef) w:=by intro b hb K Z hK;go_simp;exact hK):WL P ops Q (o::rest) ⟨T,D0⟩ w:=
 oL λK hK=>h0 _ rfl K Q (hK _ _ (h (mA _) _ (M.emp ht)))
theorem Sc {f:Nat} {args:Array Value} (h:Calls P f args w λe w'=>∃v,e= .returned v/\WL P ops Q rest ((Act.mk T D0).put o.dst v) w') (h0:∀(K:Act->World->Prop) (Z:Exit->Act->World->Prop),(Calls P f args w λe w'=>∃v,e= .returned v/\K ((Act.mk T D0).put o.dst v) w')->if Region.wanted o (yielded ops T)=true then Oper.wp P o ⟨T,D0⟩ w K Z else K ((Act.mk T D0).put o.dst undef) w:=by intro K Z hK;go_simp;refine aF hK ?_;rintro e w' ⟨v,rfl,h⟩;exact h):WL P ops Q (o::rest) ⟨T,D0⟩ w:=
 oL λK hK=>h0 K Q (h.mono λe w' q=>by obtain⟨v,h1,h2⟩:=q;exact⟨v,h1,hK _ _ h2⟩)
theorem Sp {d:Option Tmp} {v:Value} (h:WL P ops Q rest ⟨T',D0⟩ w) (hT:(Act.mk T D0).put d v=⟨T',D0⟩:=by(simp only[Act.put,bh,a_,be])<;>with_reducible rfl):∃v',Ending.returned v= .returned v'/\WL P ops Q rest ((Act.mk T D0).put d v') w:=⟨v,rfl,by rw[hT];exact h⟩
theorem Sw {d:Option Tmp} {v:Value} (h:WL P ops Q rest ⟨T',D0⟩ w) (hT:(Act.mk T D0).put d v=⟨T',D0⟩:=by(simp only[Act.put,bh,a_,be])<;>with_reducible rfl):WL P ops Q rest ((Act.mk T D0).put d v) w:=by rw[hT];exact h
theorem Sx (M:Mem P w0 X w L) (n:Nat) (V:Gh->Value) (N:Gh->List As) {T1:Gh->Array Value} {L2:Gh->List As} (h0:∀(K:Act->World->Prop) (Z:Exit->Act->World->Prop),(∀x w',Mem P w0 X w' (N x++L.drop n)->K ((Act.mk T D0).put o.dst (V x)) w')->if Region.wanted o (yielded ops T)=true then Oper.wp P o ⟨T,D0⟩ w K Z else K ((Act.mk T D0).put o.dst undef) w) (h:∀x w',Mem P w0 X w' (L2 x)->WL P ops Q rest ⟨T1 x,D0⟩ w') (hT:∀x,(Act.mk T D0).put o.dst (V x)=⟨T1 x,D0⟩:=by intro x;(simp only[Act.put,bh,a_,be])<;>with_reducible rfl) (hL:∀x,N x++L.drop n=L2 x:=by intro x;(simp only[dN,Hc,cK,cJ])<;>with_reducible rfl):WL P ops Q (o::rest) ⟨T,D0⟩ w:=
 oL λK hK=>h0 K Q λx w' M'=>hK _ _ (by rw[hT];exact h x w' (by rw[<-hL];exact M'))
variable {size bytes n c b m:Nat} {te:TypeId} {xs:List D} {A:Option Addr} {d:D} {sl x:Operand}
theorem nQ (M:Mem P w0 X w (.ow (.sl xs) t [.slice A n c]:: .ow d e cs:: .bk b te cs::L)) (hT:ElemTy P t e size bytes) (h:∀(x:Gh) w',Mem P w0 X w' (.ow (.sl (xs++[d])) t [.slice (some ⟨x.b,0,none⟩) (n+1) x.c]:: .bk b te cs::L)->WL P ops Q rest ((Act.mk T D0).put o.dst (.slice (some ⟨x.b,0,none⟩) (n+1) x.c)) w') (kD:P.cellsOf e=size:=by kernel_rfl) (zK:o.guard=none:=by rfl) (ho:o.op= .call {callee:= .builtin .append,args:=#[sl,x],argTypes:=#[t,t]}:=by rfl) (hs:(Act.mk T D0).eval sl= .slice A n c:=by rfl) (hx:(Act.mk T D0).eval x= .slice (some ⟨b,0,none⟩) 1 m:=by rfl) (hl:cs.length=size:=by rfl) (hn:n+1<=maxLen:=by(try simp only[bf]);unfold maxLen;omega) (h63:(n+1)*bytes<=140737488355328:=by(try simp only[bf]);omega):WL P ops Q (o::rest) ⟨T,D0⟩ w:=
 oL λK hK=>mG M hT kD zK sl x ho hs hx hl hn h63 λg c' w' M'=>hK _ _ (h (R3 g c') w' M')
theorem AF {α:Type} {f:α->D} {enc:α->List Value} {A2:Option Addr} {c2 B:Nat} {l2:List α} (M:Mem P w0 X w (.ow (.sl []) t [.slice (some ⟨g,0,none⟩) 0 0]::L)) (hT:ElemTy P t e size bytes) (hr:Reads enc size w B A2 m l2) (hfl:∀x∈l2,∀w',own P w' (f x) e [] (enc x)) (mB:∀x,(enc x).length=size) (hone:∀x,∀u∈enc x,u.oneCell'=true) (h:∀(x:Gh) w',Mem P w0 X w' (.ow (.sl (l2.map f)) t [.slice x.a m x.c]::L)->WL P ops Q rest ((Act.mk T D0).put o.dst (.slice x.a m x.c)) w') (kD:P.cellsOf e=size:=by kernel_rfl) (zK:o.guard=none:=by rfl) (ho:o.op= .call {callee:= .builtin .append,args:=#[sl,x],argTypes:=#[t,t]}:=by rfl) (hs:(Act.mk T D0).eval sl= .slice (some ⟨g,0,none⟩) 0 0:=by rfl) (hx:(Act.mk T D0).eval x= .slice A2 m c2:=by rfl) (h63:m*bytes<=140737488355328:=by(try simp only[bf]);omega) (hn:m<=maxLen:=by(try simp only[bf]);unfold maxLen;omega):WL P ops Q (o::rest) ⟨T,D0⟩ w:=
 oL λK hK=>pO enc M hT kD mB hone zK sl x ho hs A2 m c2 B l2 hx hr hfl h63 hn λA' c' w' M'=>hK _ _ (h (Ov A' c') w' M')
end
section
variable {P:Program} {Q:Exit->Act->World->Prop} {a:Act} {w:World} {l:List Oper} {c:Code} {id:Nat} {ops:Array Oper} {next:Act->World->Prop}
theorem Sq (h:WL P l.toArray (Exit.then (c.wp P Q) Q) l a w):(Code.seq (.region id l.toArray false) c).wp P Q a w:=ae (wp_region_lit h.out)
theorem Sg (h:WL P l.toArray Q l a w):(Code.region id l.toArray false).wp P Q a w:=wp_region_lit h.out
theorem ct {c:Operand} {x y:Code} (h:x.wp P Q a w) (hc:a.eval c= .bool true:=by rfl):(Code.cond c x y).wp P Q a w:=wp_cond_true hc h
theorem cf {c:Operand} {x y:Code} (h:y.wp P Q a w) (hc:a.eval c= .bool false:=by rfl):(Code.cond c x y).wp P Q a w:=wp_cond_false hc h
theorem Hx {c:Operand} {x:Code} (h:next a w) (hc:a.eval c= .bool true:=by rfl):(Code.cond c .skip x).wp P (Exit.then next Q) a w:=wp_cond_true hc (bd h)
theorem gk {c:Operand} {x:Code} (h:next a w) (hc:a.eval c= .bool false:=by rfl):(Code.cond c x .skip).wp P (Exit.then next Q) a w:=wp_cond_false hc (bd h)
theorem lW {c:Operand} {x y:Code} {t:Bool} (ht:t=true->x.wp P Q a w) (hf:t=false->y.wp P Q a w) (hc:a.eval c= .bool t:=by rfl):(Code.cond c x y).wp P Q a w:=wp_cond_split hc ht hf
theorem Sz (h:next a w):WL P ops (Exit.then next Q) [] a w:=⟨wpList_nil h⟩
theorem Sy (h:Q .normal a w):WL P ops Q [] a w:=⟨wpList_nil h⟩
end
def ov (T:Array Value) (zs:List Nat) (z:Nat->Value) (ps:List (Nat × Value)):Array Value:=ps.foldl (λT p=>T.setIfInBounds p.1 p.2) (zs.foldl (λT k=>T.setIfInBounds k (z k)) T)
section
variable {P:Program} {Q:Exit->Act->World->Prop} {w w0:World} {X:List Nat} {T0 T T':Array Value} {D0:List Deferred} {c:Code} {z:Nat->Value} {zs:List Nat} {ps:List (Nat × Value)}
theorem uM (h:c.wp P Q ⟨T',D0⟩ w) (hT:ov T zs z ps=T':=by(simp only[ov,bC,dK,bh,a_,be])<;>with_reducible rfl):c.wp P Q ⟨ov T zs z ps,D0⟩ w:=by rw[hT];exact h
theorem ovx {e:Exit} (h:Q e ⟨T',D0⟩ w) (hT:ov T zs z ps=T':=by(simp only[ov,bC,dK,bh,a_,be])<;>with_reducible rfl):Q e ⟨ov T zs z ps,D0⟩ w:=by rw[hT];exact h
theorem fy {ι:Type} (zs:List Nat) (ps:ι->List (Nat × Value)) (Φ:ι->Prop) (L:ι->List As) (μ:ι->Nat) (i0:ι) (h0:Φ i0) (M:Mem P w0 X w (L i0))
 (hr:∀i z w K,Φ i->Mem P w0 X w (L i)->(∀i' T' w',ov T0 zs (λk=>T'.getD k undef) (ps i')=T'->Φ i'->μ i'<μ i->Mem P w0 X w' (L i')->K (Act.mk T' D0) w')->c.wp P (Exit.then K Q) ⟨ov T0 zs z (ps i),D0⟩ w)
 (hS:ov T0 zs (λk=>T0.getD k undef) (ps i0)=T0:=by kernel_rfl):(Code.loop c).wp P Q ⟨T0,D0⟩ w:=
 Oq (λi z=>ov T0 zs z (ps i)) Φ L μ i0 hS h0 M hr
theorem rE {ι:Type} {L0:List As} (M:Mem P w0 X w L0) (zs:List Nat) (ps:ι->List (Nat × Value)) (Φ:ι->Prop) (L:ι->List As)
 (h2:∀K:Act->World->Prop,(∀i T' w',ov T0 zs (λk=>T'.getD k undef) (ps i)=T'->Φ i->Mem P w0 X w' (L i)->K (Act.mk T' D0) w')->c.wp P (Exit.then K Q) ⟨T0,D0⟩ w)
 (h1:∀i z w,Φ i->Mem P w0 X w (L i)->Q .normal ⟨ov T0 zs z (ps i),D0⟩ w):c.wp P Q ⟨T0,D0⟩ w:=
 Y5 M (λi z=>ov T0 zs z (ps i)) Φ L h2 h1
def Ke (rs:Array ResultVar) (T:Array Value):Sem Value:=do
 let vs <-rs.mapM fun
  | .tmp t=>pure (T.getD t undef)
  | .cell a t=>do loadVar t (<-asAddr (T.getD a undef))
 pure (if h:vs.size=1 then vs[0] else .tuple vs)
def Rn (r:Result Value) (K:Value->World->Prop):Prop:=match r with
 | .ok v w=>K v w
 |_=>False
theorem Eu {r:Result Value} {v:Value} (h:∀K:Value->World->Prop,K v w->Rn r K):r= .ok v w:=by
 have:=h (λv' w'=>v'=v/\w'=w) ⟨rfl,rfl⟩;cases r with
 |ok v' w'=>obtain⟨rfl,rfl⟩:=this;rfl
 |halt x w'=>exact this.elim
variable {fn:Func} {rs:Array ResultVar} {R:Ending->World->Prop} {v:Value} {L:List As} {g g':Nat} {t t':TypeId} {cs cs':List Value}
theorem vQ (hf:fn.results=rs) (h:R (.returned v) w) (hv:∀K:Value->World->Prop,K v w->Rn ((Ke rs T).run P w) K:=by intro K hK;simp only[Ke];go_simp;exact hK):bodyPost P fn R .ret ⟨T,[]⟩ w:=bM (Eu (r:=(results fn T).run P w) (by subst hf;exact hv)) rfl h
theorem rn0 (hf:fn.results=rs) (h:R (.returned v) w) (hv:∀K:Value->World->Prop,K v w->Rn ((Ke rs T).run P w) K:=by intro K hK;simp only[Ke];go_simp;exact hK):bodyPost P fn R .normal ⟨T,[]⟩ w:=bodyPost_end (Eu (r:=(results fn T).run P w) (by subst hf;exact hv)) rfl h
theorem kN (hf:fn.results=rs) (M:Mem P w0 X w L) (r:Nat) (h:R (.returned v) w) (hr:L[r]?=some (.bk g t cs):=by rfl) (hv:∀K:Value->World->Prop,ju w g 0 cs->g<w.heap.size->K v w->Rn ((Ke rs T).run P w) K:=by intro K hc hg hK;simp only[ju,Nat.reduceAdd]at hc;simp only[Ke];go_simp;exact hK):bodyPost P fn R .ret ⟨T,[]⟩ w:=bM (Eu (r:=(results fn T).run P w) λK hK=>by subst hf;exact hv K (M.bl r hr).cells (M.bl r hr).lt hK) rfl h
theorem rt2 (hf:fn.results=rs) (M:Mem P w0 X w L) (r r':Nat) (h:R (.returned v) w) (hr:L[r]?=some (.bk g t cs):=by rfl) (hr':L[r']?=some (.bk g' t' cs'):=by rfl) (hv:∀K:Value->World->Prop,ju w g 0 cs->ju w g' 0 cs'->g<w.heap.size->g'<w.heap.size->K v w->Rn ((Ke rs T).run P w) K:=by intro K hc hd hg hg' hK;simp only[ju,Nat.reduceAdd]at hc hd;simp only[Ke];go_simp;exact hK):bodyPost P fn R .ret ⟨T,[]⟩ w:=bM (Eu (r:=(results fn T).run P w) λK hK=>by subst hf;exact hv K (M.bl r hr).cells (M.bl r' hr').cells (M.bl r hr).lt (M.bl r' hr').lt hK) rfl h
end
def dpP (h:Hp) (d:Nat):Prop:=∀(nd k:Int) (cs:List Value) (w:World),nd=(d:Int)->rep w w.heap.size h.toD cs->Calls prog 66 #[av cs,k,nd] w λe w'=>e= .returned (.bool (depD h d k))/\Below w.heap.size w w'
theorem Cy {d:Nat} {k:Int} (hf:nS d (celD h k)=false):depD h d k=false:=by cases d<;>(rw[depD,hf];try rfl)
theorem Dt {h:Hp} {d:Nat} {k:Int} (hf:nS d (celD h k)=true):depD h d k=((celD h k).parts.all (depD h (d - 1))&&decide ((celD h k).value.parts.length=0)):=by
 cases d with
 |zero=>rw[depD,hf,wO hf];rfl
 |succ d=>rw[depD,hf];rfl
theorem Lh (h:Hp) (hc:(h.cells.length:Int)<=4194304) (k:Int) (cs:List Value) (w:World) (hr:rep w w.heap.size h.toD cs):Calls prog 66 #[av cs,k,.int .i64 (-1)] w λe w'=>e= .returned (.bool false)/\Below w.heap.size w w':=by
 obtain⟨A,n,c,Am,nm,cm,As,ns,ca,rfl,rc,rn,rs,wc⟩:=iP hr;have hl:=(ef rc).1;rw[au]at hl;have q0:=(Below.refl w.heap.size w).alloc (af _) (.cells #[.slice A n c,.slice Am nm cm,.slice As ns ca,h.copies] 28);have hn:(n:Int)<=4194304:=dP;clear hl;by_cases hk:0<=k/\k<=(n:Int) - 1
 ·obtain⟨j,rfl⟩:∃j:Nat,k=j:=⟨k.toNat,by omega⟩;have hj:j<n:=dP;obtain⟨b,off,x,Ai,ni,ci,Ap,np,cp,An,nn,cn,Ac,nc,cc,Al,nl,cl,Aq,nq,cq,rfl,gD,hx,fE,e0,e1,e2,e3,e4,e5,e6,e7,e8,e9⟩:=lm rc hj;have bj:(j:Int)<(n:Int):=dP;have hd:decide ((0:Int)<=(j:Int)/\(j:Int)<=(n:Int) - 1)=true:=jg;clear hx hk;go_enter func66,ntmps66;go_wp2_with fail;refine(gj _ _ _ _).mono ?_;rintro e w1 ⟨rfl,rfl⟩;go_wp2_with fail;all_goals (go_ret;exact⟨rfl,q0⟩)
 ·have hd:decide ((0:Int)<=k/\k<=(n:Int) - 1)=false:=jg;clear hk;go_enter func66,ntmps66;go_wp2_with fail;refine(gj _ _ _ _).mono ?_;rintro e w1 ⟨rfl,rfl⟩;go_wp2_with fail;all_goals (go_ret;exact⟨rfl,q0⟩)
theorem BE (h:Hp) (d:Nat) (hd:(d:Int)<=100) (hc:(h.cells.length:Int)<=4194304) (ih:∀d',d=d'+1->dpP h d'):dpP h d:=by
 intro nd k cs w sM hr;obtain⟨A,n,c,Am,nm,cm,As,ns,ca,rfl,rc,rn,rs,wc⟩:=iP hr;have hl:=(ef rc).1;rw[au]at hl;have q0:=(Below.refl w.heap.size w).alloc (af _) (.cells #[.slice A n c,.slice Am nm cm,.slice As ns ca,h.copies] 28);have hn:(n:Int)<=4194304:=dP;have Hy:(0:Int)<=nd:=dP;have HND:=aa sM;clear sM;by_cases hk:¬(0<=k/\k<=(n:Int) - 1)
 ·have HZ:=aa (Cy (d:=d) (h:=h) (k:=k) (by simp [nS,zj (h:=h) (k:=k) dP]));have hdd:decide ((0:Int)<=k/\k<=(n:Int) - 1)=false:=jg;clear hl hk;go_enter func66,ntmps66;go_wp2_with fail;refine(gj _ _ _ _).mono ?_;rintro e w1 ⟨rfl,rfl⟩;go_wp2_with fail;all_goals (go_ret;exact⟨dZ HZ.out.symm,q0⟩)
 have hk:0<=k/\k<=(n:Int) - 1:=dP;obtain⟨j,rfl⟩:∃j:Nat,k=j:=⟨k.toNat,by omega⟩;have hdd:decide ((0:Int)<=(j:Int)/\(j:Int)<=(n:Int) - 1)=true:=jg;have hj:j<n:=dP;obtain⟨b,off,x,Ai,ni,ci,Ap,np,cp,An,nn,cn,Ac,nc,cc,Al,nl,cl,Aq,nq,cq,rfl,gD,hx,fE,e0,e1,e2,e3,e4,e5,e6,e7,e8,e9⟩:=lm rc hj;have HX:=aa (iI (h:=h) hx);obtain⟨_,_,_,_,_,_,_,_,_,_,_,_,_,_,_,WQ,Yp,Xi,lK,wcn,rv,rq⟩:=i8 fE;simp only[bF,bG,dy,cO]at lK;obtain⟨⟨rfl,rfl,rfl⟩,⟨rfl,rfl,rfl⟩,⟨rfl,rfl,rfl⟩,⟨rfl,rfl,rfl⟩,⟨rfl,rfl,rfl⟩,rfl,rfl,rfl⟩:=lK;obtain⟨WQ,Yp,Xi,he,_,hqm,hq,_⟩:=(qy _ _ _ _).1 rq;injection he with he;injection he with f1 f2 f3;subst f1 f2 f3
 obtain⟨_,_,_,_,_,_,_,_,_,_,_,_,_,_,_,lK,_,_,rpv,_⟩:=fw rv;simp only[bF,bG,dy,cO]at lK;obtain⟨⟨rfl,rfl,rfl⟩,⟨rfl,rfl,rfl⟩,⟨rfl,rfl,rfl⟩,⟨rfl,rfl,rfl⟩,rfl,rfl,rfl⟩:=lK;have UB:=(ef rpv).1;rw[au]at UB;have HNP:=aa UB;have HQ:=aa hq.len;have hnq:(nq:Int)<=9223372036854775807:=by have:=hqm;have:=(ef rq).2.1;unfold maxLen at*;omega
 have WC:(0:Int)<=(np:Int):=dP;have bj:(j:Int)<(n:Int):=dP;have yb:b<w.heap.size:=gD;have q1:=q0.alloc eA (.cells #[x.count,x.value.kind,.slice Ai ni ci,.slice Ap np cp,.slice An nn cn,.slice Ac nc cc,.slice Al nl cl,x.value.code,x.value.env,.slice Aq nq cq] 43);clear hl hx hk rv rq UB;by_cases hcn:x.count<=0
 ·have HZ:=aa (Cy (d:=d) (h:=h) (k:=(j:Int)) (by rw[HX.out];simp [nS];omega));go_enter func66,ntmps66;go_wp2_with fail;refine(gj _ _ _ _).mono ?_;rintro e w1 ⟨rfl,rfl⟩;go_wp2_with fail;all_goals (go_ret;exact⟨dZ HZ.out.symm,q0⟩)
 by_cases hz:nq=0
 ·have hf:nS d (celD h (j:Int))=true:=by rw[HX.out];simp only[nS,HQ.out,hz];simp;omega
  have HZ:Hid (depD h d (j:Int)=decide (np=0)):=aa (by rw[Dt hf,HX.out,aR.1 (HQ.out.trans hz),HNP.out];rfl);obtain rfl:=hz;clear hf;go_enter func66,ntmps66;go_wp2_with fail;refine(gj _ _ _ _).mono ?_;rintro e w1 ⟨rfl,rfl⟩;go_wp2_with fail;refine aZ 1 ?_;rw[dF];go_wp2_with fail;go_ret;exact⟨dZ (by rw[HZ.out,bg];simp),q1⟩
 have hzp:0<nq:=dP;have kx:Blk ((w.alloc (.cells #[.slice (some ⟨b,off,none⟩) n c,.slice Am nm cm,.slice As ns ca,h.copies] 28)).alloc (.cells #[x.count,x.value.kind,.slice Ai ni ci,.slice Ap np cp,.slice An nn cn,.slice Ac nc cc,.slice Al nl cl,x.value.code,x.value.env,.slice Aq nq cq] 43)) (w.heap.size+1) 43 [x.count,x.value.kind,.slice Ai ni ci,.slice Ap np cp,.slice An nn cn,.slice Ac nc cc,.slice Al nl cl,x.value.code,x.value.env,.slice Aq nq cq]:=by have:=Blk.new' (w:=w.alloc (.cells #[.slice (some ⟨b,off,none⟩) n c,.slice Am nm cm,.slice As ns ca,h.copies] 28)) (t:=43) (l:=[.int .i64 x.count,.int .i64 x.value.kind,.slice Ai ni ci,.slice Ap np cp,.slice An nn cn,.slice Ac nc cc,.slice Al nl cl,.int .i64 x.value.code,.int .i64 x.value.env,.slice Aq nq cq]);simpa only[dT]using this
 have kh:Blk ((w.alloc (.cells #[.slice (some ⟨b,off,none⟩) n c,.slice Am nm cm,.slice As ns ca,h.copies] 28)).alloc (.cells #[x.count,x.value.kind,.slice Ai ni ci,.slice Ap np cp,.slice An nn cn,.slice Ac nc cc,.slice Al nl cl,x.value.code,x.value.env,.slice Aq nq cq] 43)) w.heap.size 28 [.slice (some ⟨b,off,none⟩) n c,.slice Am nm cm,.slice As ns ca,h.copies]:=(Blk.new' (l:=[.slice (some ⟨b,off,none⟩) n c,.slice Am nm cm,.slice As ns ca,.int .i64 h.copies])).al;by_cases hbad:x.value.kind≠4\/40<nq
 ·have HZ:=aa (Cy (d:=d) (h:=h) (k:=(j:Int)) sE);rcases(show (x.value.kind != 4)=true\/((x.value.kind != 4)=false/\(40:Int)<nq) by
   by_cases a4:x.value.kind=4
   ·right;exact⟨by simpa using a4,by omega⟩
   ·left;simpa using a4) with t4|⟨t4,t40⟩
  all_goals
   clear hbad hz;go_enter func66,ntmps66;go_wp2_with fail;refine(gj _ _ _ _).mono ?_;rintro e w1 ⟨rfl,rfl⟩;go_wp2_with fail;refine aZ 1 ?_;rw[dF];go_wp2_with fail;go_quiet (fail);go_wp2_with fail;go_ret;exact⟨dZ HZ.out.symm,pS q1 _⟩
 have t4:(x.value.kind != 4)=false:=dS;have t40:decide ((40:Int)<(nq:Int))=false:=dS;have QO:Hid (depD h d (j:Int)=(decide (d≠0)&&(x.parts.all (depD h (d - 1))&&decide (np=0)))):=aa (by
  by_cases h0:d=0
  ·rw[Cy sE];simp [h0]
  ·rw[Dt sE,HX.out,HNP.out];simp [h0])
 have xo:=aa ih;have HNG:=aa (Lh h hc);have HR:=aa hr;clear ih hbad hz hr;go_enter func66,ntmps66;go_wp2_with fail;refine(gj _ _ _ _).mono ?_;rintro e w1 ⟨rfl,rfl⟩;go_wp2_with fail;clear e0 e1 e2 e3 e4 e5 e6 e7 e8 e9 hdd;go_loopw [8] (λv8 wr=>∃m:Nat,m<=nq/\v8= .int .i64 m/\(x.parts.take m).all (depD h (d - 1))=true/\(d=0->m=0)/\Blk wr w.heap.size 28 [.slice (some ⟨b,off,none⟩) n c,.slice Am nm cm,.slice As ns ca,h.copies]/\Blk wr (w.heap.size+1) 43 [x.count,x.value.kind,.slice Ai ni ci,.slice Ap np cp,.slice An nn cn,.slice Ac nc cc,.slice Al nl cl,x.value.code,x.value.env,.slice Aq nq cq]/\Below w.heap.size w wr) (λv8 _=>nq - (intOf v8).toNat)
 case atStart=>exact⟨0,by omega,rfl,by simp,λ_=>rfl,kh,kx,q1⟩
 case round=>
  clear kh kx q1;obtain⟨m,hm,rfl,jb,Pt,kh,kx,bb⟩:=hrel;obtain⟨g0,g1,g2,g3⟩:=kh.c4;have f1:=kx.cell 1;have f3:=kx.cell 3;have f9:=kx.cell 9;simp only[ah,ag]at f1 f3 f9;have Kw:=aa jb;have HM0:=aa Pt;have y0:w.heap.size<wr.heap.size:=kh.lt;have y1:w.heap.size+1<wr.heap.size:=kx.lt;clear jb Pt;by_cases hlt:m<nq
  ·obtain⟨b2,o2,y,rfl,jS,hy,hc2⟩:=(hq.below bb).at_ hlt;have c2:=hc2 0 _ rfl;simp only[cu,cF]at c2;have HY:=aa hy;have ry:=fb HR.out bb bb.size;have yb2:b2<wr.heap.size:=dP;have im:(m:Int)<(nq:Int):=dP;have im0:(0:Int)<=(m:Int):=dP;clear hc2 hy;have SL:∀W,Below wr.heap.size wr W->Blk W w.heap.size 28 [.slice (some ⟨b,off,none⟩) n c,.slice Am nm cm,.slice As ns ca,h.copies]/\(W.cell? ⟨w.heap.size,0,none⟩=some (.slice (some ⟨b,off,none⟩) n c)/\W.cell? ⟨w.heap.size,1,none⟩=some (.slice Am nm cm)/\W.cell? ⟨w.heap.size,2,none⟩=some (.slice As ns ca)/\W.cell? ⟨w.heap.size,3,none⟩=some (.int .i64 h.copies)/\W.cell? ⟨w.heap.size+1,1,none⟩=some (.int .i64 x.value.kind)/\W.cell? ⟨w.heap.size+1,9,none⟩=some (.slice (some ⟨b2,o2,none⟩) nq cq)/\W.cell? ⟨b2,o2+m,none⟩=some (.int .i64 y)):=λW hW=>
    ⟨kh.next hW,((kh.next hW).c4).1,((kh.next hW).c4).2.1,((kh.next hW).c4).2.2.1,((kh.next hW).c4).2.2.2,(kx.next hW).cell 1,(kx.next hW).cell 9,(hW.cell (p:=⟨b2,o2+m,none⟩) yb2).trans c2⟩
   have S0:=(SL wr.drew (Below.refl _ _).drew).2;have xp:=aa SL;clear SL;by_cases h0:d=0
   ·have sM:nd=0:=by rw[HND.out,h0];rfl
    subst sM;go_wp2_with fail;go_region_held3 (λW=>W.cell? ⟨w.heap.size,0,none⟩=some (.slice (some ⟨b,off,none⟩) n c)/\W.cell? ⟨w.heap.size,1,none⟩=some (.slice Am nm cm)/\W.cell? ⟨w.heap.size,2,none⟩=some (.slice As ns ca)/\W.cell? ⟨w.heap.size,3,none⟩=some (.int .i64 h.copies)/\W.cell? ⟨w.heap.size+1,1,none⟩=some (.int .i64 x.value.kind)/\W.cell? ⟨w.heap.size+1,9,none⟩=some (.slice (some ⟨b2,o2,none⟩) nq cq)/\W.cell? ⟨b2,o2+m,none⟩=some (.int .i64 y))
     (first|exact S0|exact S2)
     (first|(go_at_call 66;refine(HNG.out y _ _ (kK ry)).mono ?_;rintro e w3 ⟨rfl,lE⟩;have xK:=((Below.refl wr.heap.size wr).drew).trans lE;have S2:=(xp.out w3 xK).2))
    go_wp2_with fail;go_ret;exact⟨dZ (by rw[QO.out];simp [h0]),ij bb xK⟩
   ·obtain⟨d',rfl⟩:∃d',d=d'+1:=⟨d - 1,by omega⟩;have HP:=aa (xo.out d' rfl);have hw1:IntKind.i64.wrap (nd - 1)=nd - 1:=IntWalk.i64_in _ (by have:=HND.out;omega);have HN1:Hid (nd - 1=(d':Int)):=aa (by have:=HND.out;omega);clear h0;go_wp2_with fail;go_region_held3 (λW=>W.cell? ⟨w.heap.size,0,none⟩=some (.slice (some ⟨b,off,none⟩) n c)/\W.cell? ⟨w.heap.size,1,none⟩=some (.slice Am nm cm)/\W.cell? ⟨w.heap.size,2,none⟩=some (.slice As ns ca)/\W.cell? ⟨w.heap.size,3,none⟩=some (.int .i64 h.copies)/\W.cell? ⟨w.heap.size+1,1,none⟩=some (.int .i64 x.value.kind)/\W.cell? ⟨w.heap.size+1,9,none⟩=some (.slice (some ⟨b2,o2,none⟩) nq cq)/\W.cell? ⟨b2,o2+m,none⟩=some (.int .i64 y))
     (first|exact S0|exact S2)
     (first|(go_at_call 66;refine(HP.out (nd - 1) y _ _ HN1.out (kK ry)).mono ?_;rintro e w3 ⟨rfl,lE⟩;have xK:=((Below.refl wr.heap.size wr).drew).trans lE;have S2:=(xp.out w3 xK).2))
    cases hfy:depD h d' y
    ·have HF:=aa hfy;clear hfy;go_wp2_with fail;go_ret;exact⟨dZ (by rw[QO.out,show x.parts.all (depD h (d'+1 - 1))=false from nN HY.out HF.out];simp),ij bb xK⟩
    ·have HF:=aa hfy;clear hfy;go_wp2_with fail;go_roundw
     case rel=>exact⟨m+1,by omega,by go_num,iY HY.out Kw.out HF.out,λe=>by simp at e,kh.next xK,kx.next xK,ij bb xK⟩
     case measure=>simp [intOf];omega
  ·obtain rfl:m=nq:=dP;go_wp2_with fail;go_ret;refine⟨dZ ?_,bb⟩;have Jy:d≠0:=λe=>by have:=HM0.out e;omega
   have ha:x.parts.all (depD h (d - 1))=true:=by rw[<-Kw.out,aC (by rw[HQ.out];omega)]
   rw[QO.out,ha,bg];simp [Jy]
theorem zO (h:Hp) (hc:(h.cells.length:Int)<=4194304):∀d:Nat,(d:Int)<=100->dpP h d
 |0,hd=>BE h 0 hd hc (λd' e=>by omega)
 |d+1,hd=>BE h (d+1) hd hc (λd' e=>by obtain rfl:d=d':=dP;exact zO h hc d dP)
end Go.Proofs.YtekcpadlmfaihaaGreat
