/- Copies of lists: what copyTexts and copyItems return. -/
import Derived.Test.YtekcpadlmfaihaaGreatVNu
import Derived.Deep.DeepCutAuto
import Derived.Deep.RegionLaw
import Derived.Laws.IdiomStrings
import Derived.BigRegion
namespace Go.Proofs.YtekcpadlmfaihaaGreat
open Go.RowKit Proofs.Tryz
set_option maxHeartbeats 8000000
set_option maxRecDepth 100000
set_option linter.unusedSimpArgs false
set_option linter.unusedVariables false
variable {L pq:List UInt8} {base c i j k m n x:Nat} {A:Option Addr} {P:Program} {e t:TypeId} {w:World}
theorem kM:ElemTy prog 35 135 3 32:=by obtain⟨i0,hi,rJ,tW,hz2⟩:=cZ Mr;exact⟨i0,_,underlying35,hi,rJ,tW,hz2,rfl,by omega⟩
theorem Ey (x:Item) (hx:itOK x) (ht:e=135):own prog w x.toD e [] (encItem x):=by subst ht;exact uR hx.1 hx.2.1 hx.2.2
theorem Vw {l:List Item} (h:Own encItem 3 135 w base A n c l) (hc:c<=maxLen) (hl:∀x∈l,itOK x):own prog w (.sl (l.map Item.toD)) 35 (oz A) [.slice A n c]:=
 zZ nW underlying35 dU h hc (λx hx=>Ey x (hl x hx) rfl)
theorem Own.capm {α:Type} {enc:α->List Value} {s:Nat} {l:List α} (h:Own enc s e w base A n c l):c<=maxLen:=by
 rcases h.cases with ⟨rfl,rfl,rfl,rfl⟩|⟨g,rfl⟩
 ·exact g8
 ·exact h.fil.2
theorem gJ (l:List Str) (A:Option Addr) (n c:Nat) (w:World) (h:rep w w.heap.size (.sl (l.map .s)) [.slice A n c]) (hz:l.length<=500000000000):
 Calls prog 100 #[.slice A n c] w (oK (l.map .s) 25 w):=by
 obtain⟨A',n',c',he,h2,h3,h4,h5⟩:=(ls _ _ _ _).1 h;injection he with he;injection he with e1 e2 e3;subst e1 e2 e3
 rw[h4.len]at hz;go_enter func100,ntmps100;go_wp2_with (first|(at_builtin;refine xG encS jm gW iK rfl _ _ rfl w.heap.size _ 0 0 [] rfl (Own.new_ (n:=0) gW _ [] _ rfl rfl ?_ ?_ ?_) A n c w.heap.size l rfl ?_ ?_ ?_ ?_ ?_;(unfold maxLen;omega);(exact af _);(rfl);(exact h4.below ((Below.refl _ _).alloc (af _) _));(omega);(unfold maxLen;omega);(simp only[dT];omega);intro A5 c5 w5 XU hg5 Is));go_ret;rw[bI,cJ]at XU;exact⟨_,_,_,_,rfl,by simpa using Vx XU XU.capm h5,Fresh.one (λg hg=>(XU.lt' g hg).1),((Below.refl _ _).alloc (af _) _).trans Is⟩
theorem In (l:List Item) (A:Option Addr) (n c:Nat) (w:World) (h:rep w w.heap.size (.sl (l.map Item.toD)) [.slice A n c]) (hz:l.length<=500000000000):
 Calls prog 152 #[.slice A n c] w (oK (l.map Item.toD) 35 w):=by
 obtain⟨A',n',c',he,h2,h3,h4,h5⟩:=(NS _ _ _ _).1 h;injection he with he;injection he with e1 e2 e3;subst e1 e2 e3
 rw[h4.len]at hz;go_enter func152,ntmps152;go_wp2_with (first|(at_builtin;refine xG encItem kM nW uY rfl _ _ rfl w.heap.size _ 0 0 [] rfl (Own.new_ (n:=0) nW _ [] _ rfl rfl ?_ ?_ ?_) A n c w.heap.size l rfl ?_ ?_ ?_ ?_ ?_;(unfold maxLen;omega);(exact af _);(rfl);(exact h4.below ((Below.refl _ _).alloc (af _) _));(omega);(unfold maxLen;omega);(simp only[dT];omega);intro A5 c5 w5 XU hg5 Is));go_ret;rw[bI,cJ]at XU;exact⟨_,_,_,_,rfl,by simpa using Vw XU XU.capm h5,Fresh.one (λg hg=>(XU.lt' g hg).1),((Below.refl _ _).alloc (af _) _).trans Is⟩
def cvR (v:Vec) (w W0:World) (s3:Value) (wx:World):Prop:=∃(g:Nat) (A1:Option Addr) (n1 c1:Nat) (A2:Option Addr) (n2 c2:Nat) (A3:Option Addr) (n3 c3:Nat) (A4:Option Addr) (n4 c4:Nat) (F1 F2 F3 F4:List Nat),s3= .pointer (some ⟨g,0,none⟩)/\Blk wx g 38 [v.kind,.slice A1 n1 c1,(),.slice A2 n2 c2,.slice A3 n3 c3,.slice A4 n4 c4,v.code,v.env]/\
 own prog wx (.sl (v.items.map Item.toD)) 35 F1 [.slice A1 n1 c1]/\own prog wx (.sl (v.names.map .s)) 25 F2 [.slice A2 n2 c2]/\own prog wx (.sl (v.cls.map .s)) 25 F3 [.slice A3 n3 c3]/\own prog wx (.sl (v.levels.map .s)) 25 F4 [.slice A4 n4 c4]/\Fresh W0.heap.size (g::(F1++(F2++(F3++F4))))/\Below W0.heap.size W0 wx
theorem jM:ElemTy prog 36 38 8 144:=by obtain⟨i0,hi,rJ,tW,hz2⟩:=cZ De;exact⟨i0,_,underlying36,hi,rJ,tW,hz2,rfl,by omega⟩
def cvL (v:Vec) (W0:World) (np g:Nat) (A1:Option Addr) (n1 c1:Nat) (A2:Option Addr) (n2 c2:Nat) (A3:Option Addr) (n3 c3:Nat) (A4:Option Addr) (n4 c4:Nat) (F1 F2 F3 F4:List Nat) (i:Value) (wr:World):Prop:=
 ∃(k:Nat) (Ao:Option Addr) (co:Nat) (FP:List Nat),k<=np/\i= .int .i64 k/\Blk wr g 38 [v.kind,.slice A1 n1 c1,.slice Ao k co,.slice A2 n2 c2,.slice A3 n3 c3,.slice A4 n4 c4,v.code,v.env]/\
 own prog wr (.sl ((v.parts.take k).map Vec.toD)) 36 FP [.slice Ao k co]/\
 own prog wr (.sl (v.items.map Item.toD)) 35 F1 [.slice A1 n1 c1]/\own prog wr (.sl (v.names.map .s)) 25 F2 [.slice A2 n2 c2]/\own prog wr (.sl (v.cls.map .s)) 25 F3 [.slice A3 n3 c3]/\own prog wr (.sl (v.levels.map .s)) 25 F4 [.slice A4 n4 c4]/\Fresh W0.heap.size (FP++(g::(F1++(F2++(F3++F4)))))/\Below W0.heap.size W0 wr
theorem o_ (h:P.underlying t=some (.slice e)):own P w (.sl []) t [] [()]:=by rw[own];exact⟨e,none,0,0,P.cellsOf e,[],[],h,rfl,rfl,by unfold maxLen;omega,Own.nil_,rfl,by rw[bL,iv];exact⟨rfl,rfl⟩⟩
theorem Q_ {xs:List D} {F:List Nat} (h:own P w (.sl xs) t F [.slice A n c]):xs.length=n:=(ef (eW _ _ _ _ h)).1
def cpP (v:Vec):Prop:=∀(cs:List Value) (w:World),rep w w.heap.size v.toD cs->szD v.toD<=500000000000->Calls prog 101 #[.agg cs.toArray] w (gM v.toD 38 w)
theorem Io (v:Vec) (ih:∀y∈v.parts,cpP y):cpP v:=by
 intro cs w h hz;obtain⟨Ai,ni,ci,Ap,np,cp,An,nn,cn,Ac,nc,cc,Al,nl,cl,rfl,wk,ri,rp,rn,rc,rl,wc,we⟩:=fw h;have OD:=go v;simp only[szD,au]at OD;have q0:=((Below.refl w.heap.size w).alloc (af _) (.cells #[v.kind,.slice Ai ni ci,.slice Ap np cp,.slice An nn cn,.slice Ac nc cc,.slice Al nl cl,v.code,v.env] 38)).alloc eA (.cells #[.int .i64 0,(),(),(),(),(),.int .i64 0,.int .i64 0] 38);have kA:=Blk.new_ w 38 #[v.kind,.slice Ai ni ci,.slice Ap np cp,.slice An nn cn,.slice Ac nc cc,.slice Al nl cl,v.code,v.env];have kA:=kA.next ((Below.refl _ _).alloc (af _) (.cells #[.int .i64 0,(),(),(),(),(),.int .i64 0,.int .i64 0] 38));have kR:=Blk.new_ (w.alloc (.cells #[v.kind,.slice Ai ni ci,.slice Ap np cp,.slice An nn cn,.slice Ac nc cc,.slice Al nl cl,v.code,v.env] 38)) 38 #[.int .i64 0,(),(),(),(),(),.int .i64 0,.int .i64 0];have s0:((w.alloc (.cells #[v.kind,.slice Ai ni ci,.slice Ap np cp,.slice An nn cn,.slice Ac nc cc,.slice Al nl cl,v.code,v.env] 38)).alloc (.cells #[.int .i64 0,(),(),(),(),(),.int .i64 0,.int .i64 0] 38)).heap.size=w.heap.size+1+1:=by simp only[dT]
 simp only[dT]at kR;go_enter func101,ntmps101;go_upto_region 1 with fail
 generalize (w.alloc (.cells #[v.kind,.slice Ai ni ci,.slice Ap np cp,.slice An nn cn,.slice Ac nc cc,.slice Al nl cl,v.code,v.env] 38)).alloc (.cells #[.int .i64 0,(),(),(),(),(),.int .i64 0,.int .i64 0] 38)=W0 at q0 kA kR s0 ⊢;have kA:Blk W0 w.heap.size 38 [v.kind,.slice Ai ni ci,.slice Ap np cp,.slice An nn cn,.slice Ac nc cc,.slice Al nl cl,v.code,v.env]:=kA;have hW0:w.heap.size+1<W0.heap.size:=dP;have S0:=aa s0;clear s0;have f1:=fb ri q0 q0.size;have f2:=fb rn q0 q0.size;have f3:=fb rc q0 q0.size;have f4:=fb rl q0 q0.size;go_cut [3] (λs3 wx=>cvR v w W0 s3 wx)
 case first=>
  go_region_held3 (λW=>W.cell? ⟨w.heap.size,0,none⟩=some (.int .i64 v.kind)/\W.cell? ⟨w.heap.size,1,none⟩=some (.slice Ai ni ci)/\W.cell? ⟨w.heap.size,2,none⟩=some (.slice Ap np cp)/\W.cell? ⟨w.heap.size,3,none⟩=some (.slice An nn cn)/\W.cell? ⟨w.heap.size,4,none⟩=some (.slice Ac nc cc)/\W.cell? ⟨w.heap.size,5,none⟩=some (.slice Al nl cl)/\W.cell? ⟨w.heap.size,6,none⟩=some (.int .i64 v.code)/\W.cell? ⟨w.heap.size,7,none⟩=some (.int .i64 v.env))
   (first|(refine Blk.c8 (t:=38) ?_;(repeat'(first|with_reducible assumption|with_reducible exact Blk.new'|with_reducible exact Blk.newd|with_reducible apply Blk.set8|(with_reducible refine Blk.pk ?_ ?_;((try simp only[dW,dT,dX]);omega))|with_reducible refine Blk.dw ?_|with_reducible refine Blk.al ?_|with_reducible refine Blk.next ?_ dY));done)|go_keep)
   (first|(go_at_call 152;refine(In v.items _ _ _ _ (by(repeat'(first|with_reducible assumption|with_reducible refine kK ?_|with_reducible refine sL ?_|with_reducible refine fM ?_ dY))) dP).mono ?_;rintro e w1 ⟨A1,n1,c1,G1,rfl,o1,AP,b1⟩;obtain⟨hc1,hf1⟩:=fY b1;have z1:=b1.size;have l1:=gC o1;(try simp only[dW,dT,dX]at hc1 hf1 z1 AP);(try(have y01:W0.heap.size<w1.heap.size:=by omega)))|(go_at_call_of 100 (Value.slice An nn cn);refine(gJ v.names _ _ _ _ (by(repeat'(first|with_reducible assumption|with_reducible refine kK ?_|with_reducible refine sL ?_|with_reducible refine fM ?_ dY))) dP).mono ?_;rintro e w2 ⟨A2,n2,c2,G2,rfl,o2,fr2,b2⟩;obtain⟨hc2,hf2⟩:=fY b2;have z2:=b2.size;have l2:=gC o2;(try simp only[dW,dT,dX]at hc2 hf2 z2 fr2);(try(have y12:w1.heap.size<w2.heap.size:=by omega));(try(have y02:W0.heap.size<w2.heap.size:=by omega)))|(go_at_call_of 100 (Value.slice Ac nc cc);refine(gJ v.cls _ _ _ _ (by(repeat'(first|with_reducible assumption|with_reducible refine kK ?_|with_reducible refine sL ?_|with_reducible refine fM ?_ dY))) dP).mono ?_;rintro e w3 ⟨A3,n3,c3,G3,rfl,o3,fr3,b3⟩;obtain⟨hc3,hf3⟩:=fY b3;have z3:=b3.size;have l3:=gC o3;(try simp only[dW,dT,dX]at hc3 hf3 z3 fr3);(try(have y23:w2.heap.size<w3.heap.size:=by omega));(try(have y13:w1.heap.size<w3.heap.size:=by omega));(try(have y03:W0.heap.size<w3.heap.size:=by omega)))|(go_at_call_of 100 (Value.slice Al nl cl);refine(gJ v.levels _ _ _ _ (by(repeat'(first|with_reducible assumption|with_reducible refine kK ?_|with_reducible refine sL ?_|with_reducible refine fM ?_ dY))) dP).mono ?_;rintro e w4 ⟨A4,n4,c4,G4,rfl,o4,fr4,b4⟩;obtain⟨hc4,hf4⟩:=fY b4;have z4:=b4.size;have l4:=gC o4;(try simp only[dW,dT,dX]at hc4 hf4 z4 fr4);(try(have y34:w3.heap.size<w4.heap.size:=by omega));(try(have y24:w2.heap.size<w4.heap.size:=by omega));(try(have y14:w1.heap.size<w4.heap.size:=by omega));(try(have y04:W0.heap.size<w4.heap.size:=by omega))))
  all_goals (go_wp2_with fail;go_meet;first|refine⟨w4.heap.size,A1,n1,c1,A2,n2,c2,A3,n3,c3,A4,n4,c4,G1,G2,G3,G4,rfl,?_,?_,?_,?_,?_,?_,?_⟩|refine⟨w3.heap.size,A1,n1,c1,A2,n2,c2,A3,n3,c3,A4,n4,c4,G1,G2,G3,G4,rfl,?_,?_,?_,?_,?_,?_,?_⟩|refine⟨w2.heap.size,A1,n1,c1,A2,n2,c2,A3,n3,c3,A4,n4,c4,G1,G2,G3,G4,rfl,?_,?_,?_,?_,?_,?_,?_⟩|refine⟨w1.heap.size,A1,n1,c1,A2,n2,c2,A3,n3,c3,A4,n4,c4,G1,G2,G3,G4,rfl,?_,?_,?_,?_,?_,?_,?_⟩|refine⟨W0.heap.size,A1,n1,c1,A2,n2,c2,A3,n3,c3,A4,n4,c4,G1,G2,G3,G4,rfl,?_,?_,?_,?_,?_,?_,?_⟩)
  all_goals (first|((repeat'(first|with_reducible exact Fresh.nil|with_reducible refine Fresh.cons ?_ ?_ ?_|with_reducible refine Fresh.app2 dY ?_ ?_ ?_|with_reducible refine Fresh.mono dY ?_|with_reducible exact fS|with_reducible refine fR ?_ ?_|(with_reducible refine Fresh.notin dY ?_;((try simp only[dW,dT,dX]);omega))|(with_reducible refine Lo.notin dY ?_;((try simp only[dW,dT,dX]);omega))|((try simp only[dW,dT,dX]);omega)));done)|((repeat'(first|with_reducible assumption|with_reducible exact Blk.new'|with_reducible exact Blk.newd|with_reducible apply Blk.set8|(with_reducible refine Blk.pk ?_ ?_;((try simp only[dW,dT,dX]);omega))|with_reducible refine Blk.dw ?_|with_reducible refine Blk.al ?_|with_reducible refine Blk.next ?_ dY));done)|((repeat'(first|with_reducible assumption|with_reducible refine gX ?_|with_reducible refine fK ?_|with_reducible refine ft ?_ ?_|with_reducible exact fS|with_reducible refine fR ?_ ?_|(with_reducible refine Fresh.notin dY ?_;((try simp only[dW,dT,dX]);omega))|(with_reducible refine Lo.notin dY ?_;((try simp only[dW,dT,dX]);omega))|with_reducible refine em ?_ dY));done)|((repeat'(first|with_reducible assumption|with_reducible exact Below.refl _ _|with_reducible refine jR ?_|with_reducible refine gT ?_ ?_|with_reducible refine ie ?_ ?_|with_reducible refine gR ?_ dY ?_|((try simp only[dW,dT,dX]);omega)));done))
 case rest=>
  obtain⟨g,A1,n1,c1,A2,n2,c2,A3,n3,c3,A4,n4,c4,F1,F2,F3,F4,rfl,kg,o1,o2,o3,o4,fr,bb⟩:=hcut;obtain⟨W,hW⟩:∃W:World,W=wc:=⟨_,rfl⟩;subst hW;have kA1:=(kA.below bb dP).cell 2;simp only[ah,ag]at kA1;obtain⟨mD,Pw,Mb⟩:=ef rp;rw[au]at mD;have OA:np<=500000000000:=by rw[<-mD];omega
  have Mn:=aa mD;have xo:=aa ih;have hgB:=fr.2 g aT;clear f1 f2 f3 f4 ih mD OD;go_wp2_with fail;clear kA1;go_loopw [28] (λi wr=>cvL v W0 np g A1 n1 c1 A2 n2 c2 A3 n3 c3 A4 n4 c4 F1 F2 F3 F4 i wr) (λi _=>np - (intOf i).toNat)
  case atStart=>exact⟨0,none,0,[],by omega,rfl,kg,by rw[cL];exact o_ underlying36,o1,o2,o3,o4,fr,bb⟩
  case round=>
   clear kg o1 o2 o3 o4 fr bb;obtain⟨k,Ao,co,FP,hk,rfl,kg,oP,o1,o2,o3,o4,fr,bb⟩:=hrel;have hb:=ij q0 bb;have z0:=bb.size;have XK:=kg.lt;by_cases hlt:k<np
   ·obtain⟨b,off,x,Bi,mi,di,Bp,mp,dp,Bn,mn,dn,Bc,mc,dc,Bl,ml,dl,rfl,gD,hx,fE,hx0,qM,Md,hx3,hx4,hx5,hx6,hx7⟩:=my (fF rp hb) hlt;have HX:=aa (eJ hx);have HM:=aa (aA hx);have OB:szD x.toD<=500000000000:=by have:=rC (dt (f:=Vec.toD) HM.out);have:=go v;simp only[szD]at this;omega
    clear hx;have kx:Blk (wr.alloc (.cells #[x.kind,.slice Bi mi di,.slice Bp mp dp,.slice Bn mn dn,.slice Bc mc dc,.slice Bl ml dl,x.code,x.env] 38)) wr.heap.size 38 [x.kind,.slice Bi mi di,.slice Bp mp dp,.slice Bn mn dn,.slice Bc mc dc,.slice Bl ml dl,x.code,x.env]:=Blk.new';have rx:=sL (o:= .cells #[x.kind,.slice Bi mi di,.slice Bp mp dp,.slice Bn mn dn,.slice Bc mc dc,.slice Bl ml dl,x.code,x.env] 38) (gY fE hb.size);have kg1:=kg.al (o:= .cells #[x.kind,.slice Bi mi di,.slice Bp mp dp,.slice Bn mn dn,.slice Bc mc dc,.slice Bl ml dl,x.code,x.env] 38);have zz:wr.heap.size<(wr.alloc (.cells #[x.kind,.slice Bi mi di,.slice Bp mp dp,.slice Bn mn dn,.slice Bc mc dc,.slice Bl ml dl,x.code,x.env] 38)).heap.size:=eA;have bb1:=gT (o:= .cells #[x.kind,.slice Bi mi di,.slice Bp mp dp,.slice Bn mn dn,.slice Bc mc dc,.slice Bl ml dl,x.code,x.env] 38) bb z0;have oP1:=fK (o:= .cells #[x.kind,.slice Bi mi di,.slice Bp mp dp,.slice Bn mn dn,.slice Bc mc dc,.slice Bl ml dl,x.code,x.env] 38) oP;have o11:=fK (o:= .cells #[x.kind,.slice Bi mi di,.slice Bp mp dp,.slice Bn mn dn,.slice Bc mc dc,.slice Bl ml dl,x.code,x.env] 38) o1;have o21:=fK (o:= .cells #[x.kind,.slice Bi mi di,.slice Bp mp dp,.slice Bn mn dn,.slice Bc mc dc,.slice Bl ml dl,x.code,x.env] 38) o2;have o31:=fK (o:= .cells #[x.kind,.slice Bi mi di,.slice Bp mp dp,.slice Bn mn dn,.slice Bc mc dc,.slice Bl ml dl,x.code,x.env] 38) o3;have o41:=fK (o:= .cells #[x.kind,.slice Bi mi di,.slice Bp mp dp,.slice Bn mn dn,.slice Bc mc dc,.slice Bl ml dl,x.code,x.env] 38) o4;go_upto_region 5 with fail
    generalize wr.alloc (.cells #[x.kind,.slice Bi mi di,.slice Bp mp dp,.slice Bn mn dn,.slice Bc mc dc,.slice Bl ml dl,x.code,x.env] 38)=W1 at kx rx kg1 zz bb1 oP1 o11 o21 o31 o41 ⊢;clear hx0 qM Md hx3 hx4 hx5 hx6 hx7 fE kg oP o1 o2 o3 o4 bb hb;obtain⟨e0,e1,e2,e3,e4,e5,e6,e7⟩:=kx.c8;have eg:=kg1.cell 2;simp only[ah,ag]at eg;have zf:=kg1.frozen 2;have lP:=gC oP1;have zg:g<W1.heap.size:=dP;have LL:=aa (lP.app (Lo.cons zg ((gC o11).app ((gC o21).app ((gC o31).app (gC o41))))));have Iq:=fr.left;have dg:=fr.dis g aT;have ZV:=(aQ.1 fr.right.1).1;simp only[aG,not_or]at ZV;obtain⟨N1,N2,N3,N4⟩:=ZV;have D1:=aa (λy (hy:y∈F1)=>fr.dis y eK);have D2:=aa (λy (hy:y∈F2)=>fr.dis y eK);have D3:=aa (λy (hy:y∈F3)=>fr.dis y eK);have D4:=aa (λy (hy:y∈F4)=>fr.dis y eK);go_region_law (first
     |(go_simp;go_at_call 101;refine(xo.out x HM.out _ _ (by(repeat'(first|with_reducible assumption|with_reducible refine kK ?_|with_reducible refine sL ?_|with_reducible refine fM ?_ dY))) OB).mono ?_;rintro e w1 ⟨cs1,G1,rfl,Hz,Cf,hb1⟩;obtain⟨Ci,ki,ei,Cp,kp,ep,Cn,kn,en,Cc,kc,ec,Cl,kl,el,rfl,_⟩:=fw (eW _ _ _ _ Hz);obtain⟨hc1,hf1⟩:=fY hb1;have z1:=hb1.size;(try simp only[dW,dT,dX]at hc1 hf1 z1 Cf);have yg:g<w1.heap.size:=by omega)
     |(refine gL (A:=Ao) (n:=k) (c:=co) (b:=w1.heap.size) (m:=1) (xs:=(v.parts.take k).map Vec.toD) (F:=FP) (d:=x.toD) (F':=G1) (te:=38) (cs:=[.int .i64 x.kind,.slice Ci ki ei,.slice Cp kp ep,.slice Cn kn en,.slice Cc kc ec,.slice Cl kl el,.int .i64 x.code,.int .i64 x.env]) jM ?_ ?_ (.tmp 33) (.tmp 36) ?_ ?_ ?_ ?_ ?_ ?_ ?_ ?_ ?_ ?_ ?_;(kernel_rfl);(rfl);(rfl);(rfl);(focus (repeat'(first|with_reducible assumption|with_reducible refine gX ?_|with_reducible refine fK ?_|with_reducible refine ft ?_ ?_|with_reducible exact fS|with_reducible refine fR ?_ ?_|(with_reducible refine Fresh.notin dY ?_;((try simp only[dW,dT,dX]);omega))|(with_reducible refine Lo.notin dY ?_;((try simp only[dW,dT,dX]);omega))|with_reducible refine em ?_ dY)));(rfl);(focus (repeat'(first|with_reducible assumption|with_reducible exact Blk.new'|with_reducible exact Blk.newd|with_reducible apply Blk.set8|(with_reducible refine Blk.pk ?_ ?_;((try simp only[dW,dT,dX]);omega))|with_reducible refine Blk.dw ?_|with_reducible refine Blk.al ?_|with_reducible refine Blk.next ?_ dY)));(focus (repeat'(first|with_reducible assumption|with_reducible refine gX ?_|with_reducible refine fK ?_|with_reducible refine ft ?_ ?_|with_reducible exact fS|with_reducible refine fR ?_ ?_|(with_reducible refine Fresh.notin dY ?_;((try simp only[dW,dT,dX]);omega))|(with_reducible refine Lo.notin dY ?_;((try simp only[dW,dT,dX]);omega))|with_reducible refine em ?_ dY)));(rfl);(exact(Fresh.app2 lP Iq Cf dP).1);(unfold maxLen;omega);(omega);intro gg cc w2 Ku TG KD rN;have kg2:=Blk.mod (t:=38) (cs:=[.int .i64 v.kind,.slice A1 n1 c1,.slice Ao k co,.slice A2 n2 c2,.slice A3 n3 c3,.slice A4 n4 c4,.int .i64 v.code,.int .i64 v.env]) (by(repeat'(first|with_reducible assumption|with_reducible exact Blk.new'|with_reducible exact Blk.newd|with_reducible apply Blk.set8|(with_reducible refine Blk.pk ?_ ?_;((try simp only[dW,dT,dX]);omega))|with_reducible refine Blk.dw ?_|with_reducible refine Blk.al ?_|with_reducible refine Blk.next ?_ dY))) rN dg;have eg2:=kg2.cell 2;(simp only[ah,ag]at eg2);have zf2:=kg2.frozen 2))
    all_goals
     go_wp2_with fail;go_roundw
     case rel=>
      have z2:=rN.size;simp only[dW,dT,dX]at z2;have ng:g ∉ Ku:=KD.notin dg Cf.2 dP (by((try simp only[dW,dT,dX]);omega));refine⟨k+1,some ⟨gg,0,none⟩,cc,Ku,by omega,by go_num,?_,?_,?_,?_,?_,?_,?_,?_⟩
      ·exact kg2.set_ 2 _
      ·exact yK
      ·have o12:=fH (cs:=[.slice A1 n1 c1]) (d:= .sl (v.items.map Item.toD)) (t:=35) (P:=prog) (G:=F1) (by(repeat'(first|with_reducible assumption|with_reducible refine gX ?_|with_reducible refine fK ?_|with_reducible refine ft ?_ ?_|with_reducible exact fS|with_reducible refine fR ?_ ?_|(with_reducible refine Fresh.notin dY ?_;((try simp only[dW,dT,dX]);omega))|(with_reducible refine Lo.notin dY ?_;((try simp only[dW,dT,dX]);omega))|with_reducible refine em ?_ dY))) rN D1.out
       (repeat'(first|with_reducible assumption|with_reducible refine gX ?_|with_reducible refine fK ?_|with_reducible refine ft ?_ ?_|with_reducible exact fS|with_reducible refine fR ?_ ?_|(with_reducible refine Fresh.notin dY ?_;((try simp only[dW,dT,dX]);omega))|(with_reducible refine Lo.notin dY ?_;((try simp only[dW,dT,dX]);omega))|with_reducible refine em ?_ dY))
      ·have o12:=fH (cs:=[.slice A2 n2 c2]) (d:= .sl (v.names.map .s)) (t:=25) (P:=prog) (G:=F2) (by(repeat'(first|with_reducible assumption|with_reducible refine gX ?_|with_reducible refine fK ?_|with_reducible refine ft ?_ ?_|with_reducible exact fS|with_reducible refine fR ?_ ?_|(with_reducible refine Fresh.notin dY ?_;((try simp only[dW,dT,dX]);omega))|(with_reducible refine Lo.notin dY ?_;((try simp only[dW,dT,dX]);omega))|with_reducible refine em ?_ dY))) rN D2.out
       (repeat'(first|with_reducible assumption|with_reducible refine gX ?_|with_reducible refine fK ?_|with_reducible refine ft ?_ ?_|with_reducible exact fS|with_reducible refine fR ?_ ?_|(with_reducible refine Fresh.notin dY ?_;((try simp only[dW,dT,dX]);omega))|(with_reducible refine Lo.notin dY ?_;((try simp only[dW,dT,dX]);omega))|with_reducible refine em ?_ dY))
      ·have o12:=fH (cs:=[.slice A3 n3 c3]) (d:= .sl (v.cls.map .s)) (t:=25) (P:=prog) (G:=F3) (by(repeat'(first|with_reducible assumption|with_reducible refine gX ?_|with_reducible refine fK ?_|with_reducible refine ft ?_ ?_|with_reducible exact fS|with_reducible refine fR ?_ ?_|(with_reducible refine Fresh.notin dY ?_;((try simp only[dW,dT,dX]);omega))|(with_reducible refine Lo.notin dY ?_;((try simp only[dW,dT,dX]);omega))|with_reducible refine em ?_ dY))) rN D3.out
       (repeat'(first|with_reducible assumption|with_reducible refine gX ?_|with_reducible refine fK ?_|with_reducible refine ft ?_ ?_|with_reducible exact fS|with_reducible refine fR ?_ ?_|(with_reducible refine Fresh.notin dY ?_;((try simp only[dW,dT,dX]);omega))|(with_reducible refine Lo.notin dY ?_;((try simp only[dW,dT,dX]);omega))|with_reducible refine em ?_ dY))
      ·have o12:=fH (cs:=[.slice A4 n4 c4]) (d:= .sl (v.levels.map .s)) (t:=25) (P:=prog) (G:=F4) (by(repeat'(first|with_reducible assumption|with_reducible refine gX ?_|with_reducible refine fK ?_|with_reducible refine ft ?_ ?_|with_reducible exact fS|with_reducible refine fR ?_ ?_|(with_reducible refine Fresh.notin dY ?_;((try simp only[dW,dT,dX]);omega))|(with_reducible refine Lo.notin dY ?_;((try simp only[dW,dT,dX]);omega))|with_reducible refine em ?_ dY))) rN D4.out
       (repeat'(first|with_reducible assumption|with_reducible refine gX ?_|with_reducible refine fK ?_|with_reducible refine ft ?_ ?_|with_reducible exact fS|with_reducible refine fR ?_ ?_|(with_reducible refine Fresh.notin dY ?_;((try simp only[dW,dT,dX]);omega))|(with_reducible refine Lo.notin dY ?_;((try simp only[dW,dT,dX]);omega))|with_reducible refine em ?_ dY))
      ·exact G9
      ·have B2:=jN (B:=W0.heap.size) (a:=W0) (by(repeat'(first|with_reducible assumption|with_reducible exact Below.refl _ _|with_reducible refine jR ?_|with_reducible refine gT ?_ ?_|with_reducible refine ie ?_ ?_|with_reducible refine gR ?_ dY ?_|((try simp only[dW,dT,dX]);omega)))) rN Iq.2 (by((try simp only[dW,dT,dX]);omega))
       (repeat'(first|with_reducible assumption|with_reducible exact Below.refl _ _|with_reducible refine jR ?_|with_reducible refine gT ?_ ?_|with_reducible refine ie ?_ ?_|with_reducible refine gR ?_ dY ?_|((try simp only[dW,dT,dX]);omega)))
     case measure=>simp [intOf];omega
   ·have hkk:k=np:=dP;subst hkk;have kR:Blk W0 (w.heap.size+1) 38 [.int .i64 0,(),(),(),(),(),.int .i64 0,.int .i64 0]:=kR;have ZP:=kR.below bb dP;obtain⟨r0,r1,r2,r3,r4,r5,r6,r7⟩:=ZP.c8;have Cz:w.heap.size+1<wr.heap.size:=dP;obtain⟨e0,e1,e2,e3,e4,e5,e6,e7⟩:=kg.c8;have zr:=λi=>ZP.frozen i;have Tq:=zr 0;have zr1:=zr 1;have zr2:=zr 2;have zr3:=zr 3;have zr4:=zr 4;have zr5:=zr 5;have zr6:=zr 6;have zr7:=zr 7;clear zr;go_wp2_with fail;have hl:=Q_ oP;rw[au]at hl;rw[aC lk]at oP;have hgR:g≠w.heap.size+1:=dP;refine bM (v:= .agg #[v.kind,.slice A1 n1 c1,.slice Ao k co,.slice A2 n2 c2,.slice A3 n3 c3,.slice A4 n4 c4,v.code,v.env]) (by simp [results,results101,go_sem,r0,r1,r2,r3,r4,r5,r6,r7,Cz]) rfl ⟨_,F1++(FP++(F2++(F3++(F4++[])))),rfl,?_,?_,?_⟩
    ·have q1:=fr.right.tail;have qP:=fr.left;have q2:=q1.right;have q3:=q2.right;have f1:=q1.left;have f2:=q2.left;have f3:=q3.left;have f4:=q3.right;refine jD wk ?_ ?_ ?_ ?_ ?_ wc we;all_goals (repeat'(first|with_reducible assumption|with_reducible refine gX ?_|with_reducible refine fK ?_|with_reducible refine ft ?_ ?_|with_reducible exact fS|with_reducible refine fR ?_ ?_|(with_reducible refine Fresh.notin dY ?_;((try simp only[dW,dT,dX]);omega))|(with_reducible refine Lo.notin dY ?_;((try simp only[dW,dT,dX]);omega))|with_reducible refine em ?_ dY))
    ·exact yF
    ·exact mg
theorem jd (v:Vec):cpP v:=iH Io v
theorem oO (b:UInt8):(zq b).length=1:=rfl
theorem Dv (b:UInt8):∀u∈zq b,u.oneCell'=true:=by simp [zq,Value.oneCell']
theorem aaD:(prog.info? 5).map (λi=>(i.zero,i.size,i.bytes))=some (some (.int .u8 0),1,1):=dU
theorem acf:ElemTy prog 22 5 1 1:=by obtain⟨i0,hi,rJ,tW,hz2⟩:=cZ aaD;exact⟨i0,_,underlying22,hi,rJ,tW,hz2,rfl,by omega⟩
theorem VY {B g off:Nat} {l:List UInt8} (h:Reads zq 1 w B (some ⟨g,off,none⟩) n l):
 (convert 22 9 (.slice (some ⟨g,off,none⟩) n c)).run prog w= .ok (sv l) w:=by
 have hl:=h.len;subst hl;refine run_convert_bytes_back w _ _ 5 ⟨g,off,none⟩ c l underlying22 underlying5 underlying9 (λj hj=>?_);obtain⟨b,o,x,e,hb,hx,hc⟩:=h.at_ hj;injection e with e;injection e with e1 e2 e3;subst e1 e2
 have:=hc 0 _ rfl;rw[aw hj]at hx;injection hx with hx;subst hx
 by_cases hj0:j=0
 ·subst hj0;simpa [Addr.add]using this
 ·simpa [Addr.add,hj0]using this
theorem Own.frozen {α:Type} {enc:α->List Value} {s:Nat} {e:TypeId} {w:World} {base n c g:Nat} {l:List α} (h:Own enc s e w base (some ⟨g,0,none⟩) n c l) (i:Nat):w.frozen? ⟨g,i,none⟩=false:=h.fil.1.frozen i
theorem Vo (w:World) (b off:Nat) (y:UInt8) (h:w.cell? ⟨b,off,none⟩=some (.int .u8 y.toNat)):∀j u,(zq y)[j]?=some u->w.cell? ⟨b,off+j,none⟩=some u:=by
 intro j u hu
 match j,hu with
 |0,hu=>simp [zq]at hu;subst hu;exact h
 |j+1,hu=>simp [zq]at hu
def zI (L pq:List UInt8) (i j:Nat):Prop:=pq.length=L.length/\∀q,q<L.length->pq[q]?=if q<i\/j<q then L[L.length - 1 - q]? else L[q]?
theorem Ir (L:List UInt8):zI L L 0 (L.length - 1):=⟨rfl,λq hq=>by rw[aH dP]⟩
theorem MV (h:zI L pq i j) (hij:i+j+1=L.length) (E3:j<=i):pq=L.reverse:=by
 apply et;intro q;by_cases hq:q<L.length
 ·rw[h.2 q hq,List.getElem?_reverse hq];split
  ·rfl
  ·have:L.length - 1 - q=q:=dP;rw[this]
 ·rw[b_ (by rw[h.1];omega),b_ (by rw[List.length_reverse];omega)]
theorem K8 {x y:UInt8} (h:zI L pq i j) (hij:i+j+1=L.length) (hlt:i<j) (hx:pq[i]?=some x) (hy:pq[j]?=some y):zI L ((pq.set i y).set j x) (i+1) (j - 1):=by
 have hi:=h.2 i dP;have hj:=h.2 j dP;rw[aH dP,hx]at hi;rw[aH dP,hy]at hj;refine⟨by simp [h.1],λq hq=>?_⟩;have hl:=h.1;rw[List.getElem?_set,List.getElem?_set];by_cases e1:j=q
 ·subst e1;have:L.length - 1 - j=i:=dP;rw[aN rfl,aN dS,aN dP,this,hi]
 ·rw[aH e1];by_cases e2:i=q
  ·subst e2;have:L.length - 1 - i=j:=dP;rw[aN rfl,aN dP,aN dP,this,hj]
  ·rw[aH e2,h.2 q hq];by_cases e3:q<i\/j<q
   ·rw[aN e3,aN dP]
   ·rw[aH e3,aH dP]
def fiR (w:World) (n:Int) (v0 v3:Value) (wr:World):Prop:=∃(x:Int) (A:Option Addr) (k c:Nat) (l:List UInt8),v0= .int .i64 x/\v3= .slice A k c/\Own zq 1 5 wr w.heap.size A k c l/\
 xM n.natAbs n.natAbs []=xM x.natAbs x.natAbs l.reverse/\ -9223372036854775808<=x/\x<=9223372036854775807/\Below w.heap.size w wr/\(x≠0->x.natAbs*10 ^ k<=n.natAbs)/\k<=19/\(x=0->0<k)
theorem SV (h:x*10 ^ k<=m) (hx:x≠0) (hm:m<=9223372036854775808):k<=18:=by
 rcases cP k 19 with h1|h1
 ·omega
 ·have:=Nat.pow_le_pow_right (n:=10) dP h1;have h2:10 ^ k<=x*10 ^ k:=Nat.le_mul_of_pos_left _ dP;have h3:(10:Nat) ^ 19=10000000000000000000:=dQ;omega
theorem T7 (d:Nat) (h:d<10):(((48:UInt8)+UInt8.ofNat d).toNat:Int)=48+d:=by have:∀d:Fin 10,(((48:UInt8)+UInt8.ofNat d.val).toNat:Int)=48+(d.val:Int):=dQ;exact this ⟨d,h⟩
theorem NN (h:x*10 ^ k<=m):x/10*10 ^ (k+1)<=m:=by
 have h1:x/10*10<=x:=Nat.div_mul_le_self x 10;have h2:x/10*10 ^ (k+1)=x/10*10*10 ^ k:=by rw[Nat.pow_succ,Nat.mul_assoc,Nat.mul_comm 10]
 rw[h2];exact du (dd _ h1) h
def fiC (w:World) (n:Int) (s3:Value) (wx:World):Prop:=∃(g c m:Nat) (L:List UInt8),s3= .slice (some ⟨g,0,none⟩) m c/\Own zq 1 5 wx w.heap.size (some ⟨g,0,none⟩) m c L/\Below w.heap.size w wx/\L.reverse=ja n/\0<m/\m<=20
theorem oX (n:Int) (w:World) (h0: -9223372036854775808<=n) (h1:n<=9223372036854775807):
 Calls prog 193 #[n] w λe w'=>e= .returned (sv (ja n))/\Below w.heap.size w w':=by
 by_cases WC:n=0
 ·subst WC;go_enter func193,ntmps193;go_wp2;go_ret;exact⟨rfl,Below.refl _ _⟩
 have hnb:(n==0)=false:=by simpa using WC
 go_enter func193,ntmps193;go_wp2;go_loopw [0,3] (λv0 v3 wr=>fiR w n v0 v3 wr) (λv0 _ _=>(intOf v0).natAbs)
 case atStart=>exact⟨n,none,0,0,[],rfl,rfl,Own.nil_,rfl,h0,h1,Below.refl _ _,λ_=>by simp,by omega,λh=>absurd h WC⟩
 case round=>
  obtain⟨x,A,k,c,l,rfl,rfl,ho,Zx,hx0,qM,hb,hpw,hk,XQ⟩:=hrel;have gK:=ho.len;have HD:=aa Zx;clear Zx;by_cases hx:x=0
  ·subst hx;have Sk:=XQ rfl;clear hpw XQ;have hD0:xM n.natAbs n.natAbs []=l.reverse:=HD.out;obtain⟨g,rfl⟩:∃g,A=some ⟨g,0,none⟩:=by
    rcases ho.cases with h|h
    ·omega
    ·exact h
   have H0:=aa hD0;clear HD hD0;go_upto_if 28 with fail
   go_cut [3,4] (λs3 _ wx=>fiC w n s3 wx)
   case first=>
    go_wp2_with (first|(at_builtin;refine v_ zq acf oO Dv rfl _ _ rfl w.heap.size _ k c _ rfl (ho.alloc _) 45 _ 0 1 rfl (Vo _ _ _ _ ?_) ?_ ?_ ?_ ?_;(exact Blk.new'.cell 0);(omega);(unfold maxLen;omega);(have:=hb.size;simp;omega);intro g1 c1 w1 Hz hg1 hb1 adA))
    ·have hneg:n<0:=by assumption
     go_meet;exact⟨g1,c1,k+1,l++[45],rfl,Hz,(hb.alloc hb.size _).trans hb1,by rw[List.reverse_append,<-H0.out,ja,aH WC,aN hneg];rfl,by omega,by omega⟩
    ·have hneg:¬n<0:=dP;go_meet;exact⟨g,c,k,l,rfl,ho,hb,by rw[<-H0.out,ja,aH WC,aH dP],Sk,by omega⟩
   case rest=>
    obtain⟨g2,c2,m,L,rfl,ho2,jS,hL,Pt,DJ⟩:=hcut;obtain⟨W,hW⟩:∃W:World,W=wc:=⟨_,rfl⟩;subst hW;have hm:=ho2.len;go_wp2_with fail;go_loopw [6,7] (λv6 v7 wr=>∃(i j:Nat) (pq:List UInt8),v6= .int .i64 i/\v7= .int .i64 j/\i+j+1=m/\i<=j+1/\Own zq 1 5 wr w.heap.size (some ⟨g2,0,none⟩) m c2 pq/\zI L pq i j/\Below w.heap.size w wr) (λv6 _ _=>m - (intOf v6).toNat)
    case atStart=>
     have TC:=Ir L;rw[hm]at TC;exact⟨0,m - 1,L,rfl,by go_num,by omega,by omega,ho2,TC,jS⟩
    case round=>
     clear ho2 jS ho hb;obtain⟨i,j,pq,rfl,rfl,hij,E3,ho,hhw,hb⟩:=hrel;by_cases hlt:i<j
     ·have K9:=ho.len;obtain⟨x,hx⟩:∃x,pq[i]?=some x:=⟨pq[i]' dP,by simp⟩;obtain⟨y,hy⟩:∃y,pq[j]?=some y:=⟨pq[j]' dP,by simp⟩;obtain⟨b1,o1,x1,ee,hb1,qM,hc1⟩:=(ho.reads oO).at_ (k:=i) dP;injection ee with ee;injection ee with e1 e2 e3;subst e1 e2
      obtain⟨b1,o1,y1,ee,hb1,WF,Jy⟩:=(ho.reads oO).at_ (k:=j) dP;injection ee with ee;injection ee with e1 e2 e3;subst e1 e2
      have k1:=hc1 0 _ rfl;have k2:=Jy 0 _ rfl;simp only[bI,cu,cF]at k1 k2;rw[hx]at qM;injection qM with qM;subst qM
      rw[hy]at WF;injection WF with WF;subst WF
      have him:i<m:=dP;have hjm:j<m:=dP;have hf1:wr.frozen? ⟨g2,i,none⟩=false:=ho.frozen i;have hf2:wr.frozen? ⟨g2,j,none⟩=false:=ho.frozen j;have jC:¬i=j:=dP;have Sl:¬j=i:=dP;clear hc1 Jy;go_upto_region 16 with fail
      go_region;have s1:=ho.set_ oO i 0 x y (.int .u8 y.toNat) hx dP rfl;have s2:=s1.set_ oO j 0 y x (.int .u8 x.toNat) (by rw[List.getElem?_set_ne jC];exact hy) dP rfl;simp only[cu,cF]at s2;have t2:=jR (ie (p:=⟨g2,j,none⟩) (u:= .int .u8 x.toNat) (ie (p:=⟨g2,i,none⟩) (u:= .int .u8 y.toNat) hb ho.lt.1) ho.lt.1);have TC:=K8 hhw dP hlt hx hy;have S2:=aa s2;have HST:=aa TC;clear s1 s2 TC hx hy hhw;go_wp2;refine⟨⟨i+1,j - 1,(pq.set i y).set j x,by go_num,?_,by omega,by omega,S2.out,HST.out,t2⟩,?_⟩
      ·have:((j - 1:Nat):Int)=(j:Int) - 1:=dP;rw[this]
      ·simp only[intOf];omega
     ·have hL2:=MV hhw dP dP;obtain⟨b1,o1,x1,ee,hb1,qM,hc1⟩:=(ho.reads oO).at_ (k:=i) dP;have AA:=λ(c:Nat)=>VY (c:=c) (ho.reads oO);have Ts:=aa hL2;clear hL2 hc1 qM ee;go_wp2;go_ret;exact⟨mK (by rw[Ts.out,hL]),hb⟩
  ·have hnb':(x != 0)=true:=oh;have hp1:=hpw hx;have hk18:=SV hp1 dP dP;clear hpw XQ;have e1:(x.tmod 10).natAbs=x.natAbs % 10:=by rw[Int.natAbs_tmod];rfl
   have e2:(x.tdiv 10).natAbs=x.natAbs/10:=by rw[Int.natAbs_tdiv];rfl
   have b1: -9<=x.tmod 10:=dP;have b2:x.tmod 10<=9:=dP;have b3: -9223372036854775808<=x.tdiv 10/\x.tdiv 10<=9223372036854775807:=dP;have HS:=aa (Du x.natAbs l.reverse dP);have HP:=aa hp1;have E1:=aa e1;have E2:=aa e2;clear hp1 e1 e2;by_cases hneg:x.tmod 10<0
   ·have R_:(48:Int)+ -x.tmod 10=(((48:UInt8)+UInt8.ofNat (x.natAbs % 10)).toNat:Int):=by rw[T7 _ dP];have:=E1.out;omega
    have HDI:=aa R_;clear R_;go_wp2_with (first|(at_builtin;refine v_ zq acf oO Dv rfl _ _ rfl w.heap.size _ k c _ rfl (ho.alloc _) (48+UInt8.ofNat (x.natAbs % 10)) _ 0 1 rfl (Vo _ _ _ _ ?_) ?_ ?_ ?_ ?_;(rw[<-HDI.out];exact Blk.new'.cell 0);(omega);(unfold maxLen;omega);(have:=hb.size;simp;omega);intro g1 c1 w1 Hz hg1 hb1 adA));go_roundw
    case rel=>exact⟨x.tdiv 10,some ⟨g1,0,none⟩,k+1,c1,l++[48+UInt8.ofNat (x.natAbs % 10)],rfl,rfl,Hz,by rw[HD.out,HS.out,List.reverse_append,E2.out];rfl,b3.1,b3.2,(hb.alloc hb.size _).trans hb1,λ_=>by rw[E2.out];exact NN HP.out,by omega,λ_=>by omega⟩
    case measure=>simp only[intOf];have:=E2.out;omega
   ·have R_:(48:Int)+x.tmod 10=(((48:UInt8)+UInt8.ofNat (x.natAbs % 10)).toNat:Int):=by rw[T7 _ dP];have:=E1.out;omega
    have HDI:=aa R_;clear R_;go_wp2_with (first|(at_builtin;refine v_ zq acf oO Dv rfl _ _ rfl w.heap.size _ k c _ rfl (ho.alloc _) (48+UInt8.ofNat (x.natAbs % 10)) _ 0 1 rfl (Vo _ _ _ _ ?_) ?_ ?_ ?_ ?_;(rw[<-HDI.out];exact Blk.new'.cell 0);(omega);(unfold maxLen;omega);(have:=hb.size;simp;omega);intro g1 c1 w1 Hz hg1 hb1 adA));go_roundw
    case rel=>exact⟨x.tdiv 10,some ⟨g1,0,none⟩,k+1,c1,l++[48+UInt8.ofNat (x.natAbs % 10)],rfl,rfl,Hz,by rw[HD.out,HS.out,List.reverse_append,E2.out];rfl,b3.1,b3.2,(hb.alloc hb.size _).trans hb1,λ_=>by rw[E2.out];exact NN HP.out,by omega,λ_=>by omega⟩
    case measure=>simp only[intOf];have:=E2.out;omega
def hx (n:Nat):UInt8:=([48,49,50,51,52,53,54,55,56,57,97,98,99,100,101,102]:List UInt8)[n]?.getD 48
theorem wP (n:Int):(ja n).length<=n.natAbs+1:=by
 have dl:∀(f k:Nat) (s:Str),(xM f k s).length<=f+s.length:=by
  intro f
  induction f with
  |zero=>intro k s;simp [xM]
  |succ f ih=>
   intro k s;rw[xM];split
   ·omega
   ·have:=ih (k/10) ((48+UInt8.ofNat (k % 10))::s);rw[bU]at this;omega
 unfold ja;have:=dl n.natAbs n.natAbs [];simp only[bf]at this;split
 ·simp
 ·split
  ·rw[bU];omega
  ·omega
def qq (x:Item):Str:=if eI x then[78,65] else if nZ x then (if x.den=1 then ja x.num else ja x.num++([47]++ja x.den)) else[]
theorem vw {x:Item} (h:nZ x=true):(1<=x.den/\x.den<=999999999)/\ -999999999<=x.num/\x.num<=999999999:=by simp [nZ]at h;omega
theorem JH (a d:Int) (t:Str):(a=0/\d=0/\t=[])\/(¬a=0/\eI ⟨a,d,t⟩=false)\/(a=0/\¬d=0/\eI ⟨a,d,t⟩=false)\/(a=0/\d=0/\¬t=[]/\eI ⟨a,d,t⟩=false):=by
 by_cases h1:a=0
 ·by_cases h2:d=0
  ·by_cases h3:t=[]
   ·exact .inl ⟨h1,h2,h3⟩
   ·exact .inr (.inr (.inr ⟨h1,h2,h3,by simp [eI,h3]⟩))
  ·exact .inr (.inr (.inl ⟨h1,h2,by simp [eI,h2]⟩))
 ·exact .inr (.inl ⟨h1,by simp [eI,h1]⟩)
theorem vX (x:Item) (w:World):Calls prog 187 #[Me x] w λe w'=>e= .returned (sv (qq x))/\Below w.heap.size w w':=by
 obtain⟨a,d,t⟩:=x;have q0:=(Below.refl w.heap.size w).alloc (af _) (.cells #[a,d,sv t] 135);have HF:=aa (show qq ⟨a,d,t⟩=if eI ⟨a,d,t⟩ then[78,65] else if nZ ⟨a,d,t⟩ then (if d=1 then ja a else ja a++([47]++ja d)) else[] from rfl);have HN:=aa (λh=>vw (x:=⟨a,d,t⟩) h);rcases JH a d t with ⟨rfl,rfl,rfl⟩|⟨ha,hm⟩|⟨rfl,ha,hm⟩|⟨rfl,rfl,ha,hm⟩
 ·go_enter func187,ntmps187;go_wp2_with fail;go_ret;exact⟨mK (by rw[HF.out];rfl),q0⟩
 all_goals
  have HM:=aa hm;clear hm;go_enter func187,ntmps187;go_wp2_with fail;refine(tj ⟨_,_,_⟩ _).mono ?_;rintro e w1 ⟨rfl,hb1⟩;obtain⟨hc1,hf1⟩:=fY hb1;have tW:=hb1.size;simp only[dT]at hc1 hf1 tW;generalize hN:nZ _=b at HF ⊢;have HM:=HM.out;cases b with
  |false=>
   have HN0:=aa hN;clear hN;go_wp2_with fail;go_ret;exact⟨mK (by rw[HF.out,HM];rfl),ij q0 hb1⟩
  |true=>
   obtain⟨⟨d0,d1⟩,n0,n1⟩:=HN.out hN
   (try simp only at d0 d1 n0 n1)
   first
    |(exfalso;omega)
    |skip
   all_goals
    have HN0:=aa hN;clear hN;have HM0:=aa HM;clear HM;have l1:(ja d).length<=1000000000:=by have:=wP d;omega
    first|(have l2:(ja a).length<=1000000000:=by have:=wP a;omega)|(have l2:(ja 0).length<=1000000000:=by have:=wP 0;omega)
    cases hd:(d==1) with
    |true=>
     go_wp2_with (go_at_call 192;((with_reducible refine(pj _ _ dP dP).mono ?_);rintro e w2 ⟨rfl,rfl⟩));go_ret;exact⟨mK B8,ij q0 hb1⟩
    |false=>
     go_upto_region 7 with fail
     first
      |((have i1:¬9223372036854775807<(ja a).length+1:=dP);(have i2:¬9223372036854775807<(ja a).length+((ja d).length+1):=dP);(have i3:¬9223372036854775807<(ja a).length+1+(ja d).length:=dP);(have i4:¬9223372036854775807<(ja a).length+(1+(ja d).length):=dP))
      |((have i1:¬9223372036854775807<(ja 0).length+1:=dP);(have i2:¬9223372036854775807<(ja 0).length+((ja d).length+1):=dP);(have i3:¬9223372036854775807<(ja 0).length+1+(ja d).length:=dP);(have i4:¬9223372036854775807<(ja 0).length+(1+(ja d).length):=dP))
     first
      |(go_region_held3 (λW=>W.cell? ⟨w.heap.size,0,none⟩=some (.int .i64 a)/\W.cell? ⟨w.heap.size,1,none⟩=some (.int .i64 d)) (first|go_keep|(refine⟨?_,?_⟩<;>(first|((try rw[hc2 _ _ dP]);(try rw[hc1 _ _ dP]);go_keep)))) (first|(go_at_call 192;refine(pj _ _ ?_ ?_).mono ?_;(omega);(omega);rintro e w2 ⟨rfl,rfl⟩)))
      |(go_region_held3 (λW=>W.cell? ⟨w.heap.size,0,none⟩=some (.int .i64 0)/\W.cell? ⟨w.heap.size,1,none⟩=some (.int .i64 d)) (first|go_keep|(refine⟨?_,?_⟩<;>(first|((try rw[hc2 _ _ dP]);(try rw[hc1 _ _ dP]);go_keep)))) (first|(go_at_call 192;refine(pj _ _ ?_ ?_).mono ?_;(omega);(omega);rintro e w2 ⟨rfl,rfl⟩)))
     all_goals
      go_wp2_with fail;go_ret;refine⟨mK BR,?_⟩;have q1:=ij q0 hb1
      (repeat'(first|with_reducible assumption|with_reducible exact Below.refl _ _|with_reducible refine jR ?_|with_reducible refine gT ?_ ?_|with_reducible refine ie ?_ ?_|with_reducible refine gR ?_ dY ?_|((try simp only[dW,dT,dX]);omega)))
theorem vr (x:Item) (w:World):Calls prog 191 #[Me x] w λe w'=>e= .returned (sv (qq x))/\Below w.heap.size w w':=by
 obtain⟨a,d,t⟩:=x;have q0:=(Below.refl w.heap.size w).alloc (af _) (.cells #[a,d,sv t] 135);have HF:=aa (show qq ⟨a,d,t⟩=if eI ⟨a,d,t⟩ then[78,65] else if nZ ⟨a,d,t⟩ then (if d=1 then ja a else ja a++([47]++ja d)) else[] from rfl);have HN:=aa (λh=>vw (x:=⟨a,d,t⟩) h);rcases JH a d t with ⟨rfl,rfl,rfl⟩|⟨ha,hm⟩|⟨rfl,ha,hm⟩|⟨rfl,rfl,ha,hm⟩
 ·go_enter func191,ntmps191;go_wp2_with fail;go_ret;exact⟨mK (by rw[HF.out];rfl),q0⟩
 all_goals
  have HM:=aa hm;clear hm;go_enter func191,ntmps191;go_wp2_with fail;refine(pA ⟨_,_,_⟩ _).mono ?_;rintro e w1 ⟨rfl,hb1⟩;obtain⟨hc1,hf1⟩:=fY hb1;have tW:=hb1.size;simp only[dT]at hc1 hf1 tW;generalize hN:nZ _=b at HF ⊢;have HM:=HM.out;cases b with
  |false=>
   have HN0:=aa hN;clear hN;go_wp2_with fail;go_ret;exact⟨mK (by rw[HF.out,HM];rfl),ij q0 hb1⟩
  |true=>
   obtain⟨⟨d0,d1⟩,n0,n1⟩:=HN.out hN
   (try simp only at d0 d1 n0 n1)
   first
    |(exfalso;omega)
    |skip
   all_goals
    have HN0:=aa hN;clear hN;have HM0:=aa HM;clear HM;have l1:(ja d).length<=1000000000:=by have:=wP d;omega
    first|(have l2:(ja a).length<=1000000000:=by have:=wP a;omega)|(have l2:(ja 0).length<=1000000000:=by have:=wP 0;omega)
    cases hd:(d==1) with
    |true=>
     go_wp2_with (go_at_call 193;((with_reducible refine(oX _ _ dP dP).mono ?_);rintro e w2 ⟨rfl,jS⟩));go_ret;exact⟨mK B8,ij (ij q0 hb1) jS⟩
    |false=>
     go_upto_region 7 with fail
     first
      |((have i1:¬9223372036854775807<(ja a).length+1:=dP);(have i2:¬9223372036854775807<(ja a).length+((ja d).length+1):=dP);(have i3:¬9223372036854775807<(ja a).length+1+(ja d).length:=dP);(have i4:¬9223372036854775807<(ja a).length+(1+(ja d).length):=dP))
      |((have i1:¬9223372036854775807<(ja 0).length+1:=dP);(have i2:¬9223372036854775807<(ja 0).length+((ja d).length+1):=dP);(have i3:¬9223372036854775807<(ja 0).length+1+(ja d).length:=dP);(have i4:¬9223372036854775807<(ja 0).length+(1+(ja d).length):=dP))
     first
      |(go_region_held3 (λW=>W.cell? ⟨w.heap.size,0,none⟩=some (.int .i64 a)/\W.cell? ⟨w.heap.size,1,none⟩=some (.int .i64 d)) (first|go_keep|(refine⟨?_,?_⟩<;>(first|((try rw[hc2 _ _ dP]);(try rw[hc1 _ _ dP]);go_keep)))) (first|(go_at_call 193;refine(oX _ _ ?_ ?_).mono ?_;(omega);(omega);rintro e w2 ⟨rfl,jS⟩;obtain⟨hc2,hf2⟩:=fY jS;have hz2:=jS.size;(try simp only[dW]at hc2 hf2 hz2))))
      |(go_region_held3 (λW=>W.cell? ⟨w.heap.size,0,none⟩=some (.int .i64 0)/\W.cell? ⟨w.heap.size,1,none⟩=some (.int .i64 d)) (first|go_keep|(refine⟨?_,?_⟩<;>(first|((try rw[hc2 _ _ dP]);(try rw[hc1 _ _ dP]);go_keep)))) (first|(go_at_call 193;refine(oX _ _ ?_ ?_).mono ?_;(omega);(omega);rintro e w2 ⟨rfl,jS⟩;obtain⟨hc2,hf2⟩:=fY jS;have hz2:=jS.size;(try simp only[dW]at hc2 hf2 hz2))))
     all_goals
      go_wp2_with fail;go_ret;refine⟨mK BR,?_⟩;have q1:=ij q0 hb1
      (repeat'(first|with_reducible assumption|with_reducible exact Below.refl _ _|with_reducible refine jR ?_|with_reducible refine gT ?_ ?_|with_reducible refine ie ?_ ?_|with_reducible refine gR ?_ dY ?_|((try simp only[dW,dT,dX]);omega)))
end Go.Proofs.YtekcpadlmfaihaaGreat
