/- Syntactic names: what IsSyntacticName and FormatName of the program and of the reference return. -/
import Derived.Test.YtekcpadlmfaihaaGreatVCp
import Derived.Test.YtekcpadlmfaihaaGreatVVb
import Derived.Test.YtekcpadlmfaihaaGreatVReg
import Derived.Deep.DeepCutAuto
namespace Go.Proofs.YtekcpadlmfaihaaGreat
open Go.RowKit Proofs.Tryz
set_option maxHeartbeats 8000000
set_option maxRecDepth 100000
set_option linter.unusedSimpArgs false
set_option linter.unusedVariables false
variable {F:List Nat} {cs:List Value} {x:Str} {t:TypeId} {v:Vec} {w:World}
def ZT (l:List Str) (k:Nat):Str:=(l[k]?).getD []
def sN (s:Str):Item:=⟨0,1,s⟩
def iA (l:List Str):Vec:=⟨3,l.map sN,[],[],[],[],0,0⟩
theorem le:(Lit.int .i64 0).wf=true:=dQ
theorem wf1:(Lit.int .i64 1).wf=true:=dQ
theorem Wa:(Lit.int .i64 3).wf=true:=dQ
theorem pm (s:Str) (w:World):Calls prog 158 #[sv s] w λe w'=>e= .returned (.agg #[.int .i64 0,.int .i64 1,sv s])/\Below w.heap.size w w':=by go_enter func158,ntmps158;go_wp2_with fail;exact bM (v:= .agg #[.int .i64 0,.int .i64 1,sv s]) (by simp [results,results158,go_sem]) rfl ⟨rfl,(Below.refl _ _).alloc (af _) _⟩
theorem t9 (s:Str) (w:World):Calls prog 168 #[sv s] w λe w'=>e= .returned (.agg #[.int .i64 0,.int .i64 1,sv s])/\Below w.heap.size w w':=by go_enter func168,ntmps168;go_wp2_with fail;exact bM (v:= .agg #[.int .i64 0,.int .i64 1,sv s]) (by simp [results,results168,go_sem]) rfl ⟨rfl,(Below.refl _ _).alloc (af _) _⟩
abbrev Bj:List Value:=[.int .i64 0,.slice none 0 0,.slice none 0 0,.slice none 0 0,.slice none 0 0,.slice none 0 0,.int .i64 0,.int .i64 0]
def tvL (l:List Str) (w:World) (n:Nat) (i:Value) (wr:World):Prop:=∃(k:Nat) (Ao:Option Addr) (co:Nat) (FP:List Nat),k<=n/\i= .int .i64 k/\
 Blk wr (w.heap.size+1) 38 [.int .i64 3,.slice Ao k co,(),(),(),(),.int .i64 0,.int .i64 0]/\Blk wr w.heap.size 38 Bj/\
 own prog wr (.sl ((l.take k).map λs=>(sN s).toD)) 35 FP [.slice Ao k co]/\Fresh (w.heap.size+2) FP/\Below w.heap.size w wr
theorem Rd (h:x.length<=60):own prog w (sN x).toD 135 [] [.int .i64 0,.int .i64 1,sv x]:=Ey (sN x) ⟨le,wf1,by unfold maxLen sN;simp only;omega⟩ rfl
theorem xS (l:List Str) (A:Option Addr) (n c:Nat) (w:World) (hr:Reads encS 1 w w.heap.size A n l) (hn:(n:Int)<=40) (hl:∀x∈l,x.length<=60):
 Calls prog 113 #[.slice A n c] w (gM (iA l).toD 38 w):=by
 have acZ:=aa hr.len;have q0:=((Below.refl w.heap.size w).alloc (af _) (.cells Bj.toArray 38)).alloc eA (.cells #[.int .i64 3,(),(),(),(),(),.int .i64 0,.int .i64 0] 38);have k0:Blk (w.alloc (.cells Bj.toArray 38)) w.heap.size 38 Bj:=Blk.new';have k1:Blk ((w.alloc (.cells Bj.toArray 38)).alloc (.cells #[.int .i64 3,(),(),(),(),(),.int .i64 0,.int .i64 0] 38)) (w.heap.size+1) 38 [.int .i64 3,(),(),(),(),(),.int .i64 0,.int .i64 0]:=Gv;have HL:=aa hl;clear hl;go_enter func113,ntmps113;go_wp2_with fail;go_loopw [13] (λi wr=>tvL l w n i wr) (λi _=>n - (intOf i).toNat)
 case atStart=>exact⟨0,none,0,[],by omega,rfl,k1,k0.al,by rw[cL];exact o_ underlying35,Fresh.nil,q0⟩
 case round=>
  clear k0 k1 q0;obtain⟨k,Ao,co,FP,hk,rfl,kg,kz,oP,fr,bb⟩:=hrel;have z0:=kg.lt;by_cases hlt:k<n
  ·obtain⟨b,off,x,rfl,hb,hx,hc⟩:=(hr.below bb).at_ hlt;have h0:=hc 0 _ rfl;simp only[cu,cF]at h0;have abJ:=HL.out x (aA hx);have TD:¬(60:Int)<x.length:=dP;have HX:=aa (eJ hx);clear hc hx;have eg:=kg.cell 1;simp only[ah,ag]at eg;have zf:=kg.frozen 1;have lP:=gC oP;go_upto_region 9 with fail
   go_region_law (first
    |(go_simp;go_at_call 158;refine(pm x _).mono ?_;rintro e w1 ⟨rfl,hb1⟩;obtain⟨hc1,hf1⟩:=fY hb1;have z1:=hb1.size;(try simp only[dW,dT,dX]at hc1 hf1 z1);have yg:w.heap.size+1<w1.heap.size:=by omega)
    |(refine gL (A:=Ao) (n:=k) (c:=co) (b:=w1.heap.size) (m:=1) (xs:=(l.take k).map λs=>(sN s).toD) (F:=FP) (d:=(sN x).toD) (F':=[]) (te:=135) (cs:=[.int .i64 0,.int .i64 1,sv x]) kM ?_ ?_ (.tmp 22) (.tmp 25) ?_ ?_ ?_ ?_ ?_ ?_ ?_ ?_ ?_ ?_ ?_;(kernel_rfl);(rfl);(rfl);(rfl);(focus (repeat'(first|with_reducible assumption|with_reducible refine gX ?_|with_reducible refine fK ?_|with_reducible refine ft ?_ ?_|with_reducible exact fS|with_reducible refine fR ?_ ?_|(with_reducible refine Fresh.notin dY ?_;((try simp only[dW,dT,dX]);omega))|(with_reducible refine Lo.notin dY ?_;((try simp only[dW,dT,dX]);omega))|with_reducible refine em ?_ dY)));(rfl);(focus (repeat'(first|with_reducible assumption|with_reducible exact Blk.new'|with_reducible exact Blk.newd|with_reducible apply Blk.set8|(with_reducible refine Blk.pk ?_ ?_;((try simp only[dW,dT,dX]);omega))|with_reducible refine Blk.dw ?_|with_reducible refine Blk.al ?_|with_reducible refine Blk.next ?_ dY)));(exact Rd abJ);(rfl);(rw[bP];exact fr.1);(unfold maxLen;omega);(omega);intro gg cc w2 Ku TG KD rN;have kg2:=Blk.mod (t:=38) (cs:=[.int .i64 3,.slice Ao k co,.slice none 0 0,.slice none 0 0,.slice none 0 0,.slice none 0 0,.int .i64 0,.int .i64 0]) (g:=w.heap.size+1) (by(repeat'(first|with_reducible assumption|with_reducible exact Blk.new'|with_reducible exact Blk.newd|with_reducible apply Blk.set8|(with_reducible refine Blk.pk ?_ ?_;((try simp only[dW,dT,dX]);omega))|with_reducible refine Blk.dw ?_|with_reducible refine Blk.al ?_|with_reducible refine Blk.next ?_ dY))) rN (fr.notin dP);have eg2:=kg2.cell 1;(simp only[ah,ag]at eg2);have zf2:=kg2.frozen 1))
   all_goals
    go_wp2_with fail;go_roundw
    case rel=>
     have z2:=rN.size;simp only[dW,dT,dX]at z2;have ng:w.heap.size+1 ∉ Ku:=KD.notin (C:=w.heap.size+2) (fr.notin dP) dR dP (by((try simp only[dW,dT,dX]);omega));refine⟨k+1,some ⟨gg,0,none⟩,cc,Ku,by omega,by go_num,kg2.set_ 1 _,?_,?_,?_,?_⟩
     ·exact GY
     ·exact yK
     ·exact Gx
     ·exact Hh
    case measure=>simp [intOf];omega
  ·obtain rfl:k=n:=dP;obtain⟨r0,r1,r2,r3,r4,r5,r6,r7⟩:=kz.c8;have Cz:w.heap.size<wr.heap.size:=dP;obtain⟨e0,e1,e2,e3,e4,e5,e6,e7⟩:=kg.c8;have zr:=λi=>kz.frozen i;have Tq:=zr 0;have zr1:=zr 1;have zr2:=zr 2;have zr3:=zr 3;have zr4:=zr 4;have zr5:=zr 5;have zr6:=zr 6;have zr7:=zr 7;clear zr;go_wp2_with fail;rw[aC su]at oP;refine bM (v:= .agg #[.int .i64 3,.slice Ao k co,(),(),(),(),.int .i64 0,.int .i64 0]) (by simp [results,results113,go_sem,r0,r1,r2,r3,r4,r5,r6,r7,Cz]) rfl ⟨_,FP++([]++([]++([]++([]++[])))),rfl,?_,?_,?_⟩
   ·refine jD (x:=iA l) Wa ?_ (o_ underlying36) (o_ underlying25) (o_ underlying25) (o_ underlying25) le le;have e9:(iA l).items.map Item.toD=l.map λs=>(sN s).toD:=by simp [iA,Function.comp_def]
    rw[e9];have lo:=gC oP;have fn:w.heap.size ∉ FP:=fr.notin dP;repeat'(first|with_reducible assumption|with_reducible refine ft ?_ ?_)
   ·simpa using fr.mono dP
   ·exact mg
def CD (b2 b5 b8 b9 Jc Ht Jd Hu Je Hv Dk:Bool):Array Bool:=#[true,true,b2,true,true,b5,true,true,b8,b9,true,true,Jc,Ht,true,true,Jd,Hu,true,true,Je,true,true,true,true,Hv,Dk]
def lcI (ps:List Vec) (v:Vec) (Ai:Option Addr) (ni ci:Nat) (Ap:Option Addr) (np cp:Nat) (An:Option Addr) (nn cn:Nat) (Ac:Option Addr) (nc cc:Nat) (Al:Option Addr) (nl cl:Nat) (w W0:World) (l:Array Bool) (a:Act) (wx:World):Prop:=∃(b2 b5 b8 b9 Jc Ht Jd Hu Je Hv Dk:Bool) (u5 u8 LP Tl OH Tm OI Tn OJ Qn:Value) (F1 F2 F3 F4 F5:List Nat),
 (l=CD b2 b5 b8 b9 Jc Ht Jd Hu Je Hv Dk/\a=⟨#[av (vc v Ai ni ci Ap np cp An nn cn Ac nc cc Al nl cl),.pointer (some ⟨w.heap.size,0,none⟩),.pointer (some ⟨w.heap.size+1,0,none⟩),.pointer (some ⟨w.heap.size,0,none⟩),.int .i64 v.kind,u5,.pointer (some ⟨w.heap.size,1,none⟩),.slice Ai ni ci,u8,.pointer (some ⟨w.heap.size,2,none⟩),.slice Ap np cp,LP,Tl,.pointer (some ⟨w.heap.size,3,none⟩),.slice An nn cn,OH,Tm,.pointer (some ⟨w.heap.size,4,none⟩),.slice Ac nc cc,OI,Tn,.pointer (some ⟨w.heap.size,5,none⟩),.slice Al nl cl,OJ,.pointer (some ⟨w.heap.size,6,none⟩),.int .i64 v.code,.pointer (some ⟨w.heap.size,7,none⟩),.int .i64 v.env,Qn],[]⟩)/\(Blk wx w.heap.size 38 [v.kind,.slice Ai ni ci,.slice Ap np cp,.slice An nn cn,.slice Ac nc cc,.slice Al nl cl,v.code,v.env]/\Blk wx (w.heap.size+1) 38 (if Dk then[.int .i64 v.kind,u8,LP,OH,OI,OJ,.int .i64 v.code,.int .i64 v.env] else Bj)/\Below w.heap.size w wx/\w.heap.size+2<=wx.heap.size)/\
 (pr prog wx (v.items.map Item.toD) 35 b2 b5 u5 u8 F1/\sg prog wx (.sl (ps.map Vec.toD)) 36 b8 LP F2/\pr prog wx (v.names.map .s) 25 b9 Jc Tl OH F3/\pr prog wx (v.cls.map .s) 25 Ht Jd Tm OI F4/\pr prog wx (v.levels.map .s) 25 Hu Je Tn OJ F5)/\
 (Fresh (w.heap.size+2) (F1++(F2++(F3++(F4++F5))))/\Lo wx.heap.size (F1++(F2++(F3++(F4++F5)))))/\(Hv=true->(b5=true/\b8=true/\Jc=true/\Jd=true/\Je=true)/\Qn= .agg #[v.kind,u8,LP,OH,OI,OJ,v.code,v.env])/\(Dk=true->Hv=true)
theorem Yy {x:Item} (h:itOK x) (w':World):own prog w' x.toD 135 [] (encItem x):=Ey x h rfl
theorem Lx (h:x.length<=maxLen) (w':World):own prog w' (.s x) 9 [] (encS x):=by rw[own];exact⟨rfl,rfl,h⟩
theorem rW {e:TypeId} (ht:prog.underlying t=some (.slice e)):own prog (w.alloc (.cells #[] e)) (.sl []) t [w.heap.size] [.slice (some ⟨w.heap.size,0,none⟩) 0 0]:=by rw[own];refine⟨e,_,0,0,_,[],[],ht,rfl,rfl,by unfold maxLen;omega,?_,rfl,by rw[bL,iv];exact⟨rfl,rfl⟩⟩;exact Own.new_ Row.len w [] #[] rfl rfl eb (dj _) rfl
theorem JN (v:Vec) (ps:List Vec) (hcp:∀A n c w,rep w w.heap.size (.sl (v.parts.map Vec.toD)) [.slice A n c]->Calls prog 127 #[.slice A n c] w (oK (ps.map Vec.toD) 36 w)) (cs:List Value) (w:World) (h:rep w w.heap.size v.toD cs) (hz:szD v.toD<=500000000000):
 Calls prog 56 #[av cs] w (gM ({v with parts:=ps}:Vec).toD 38 w):=by
 obtain⟨Ai,ni,ci,Ap,np,cp,An,nn,cn,Ac,nc,cc,Al,nl,cl,rfl,hv⟩:=iy h;have OD:=go v;simp only[szD,au]at OD;have li:=hv.it.len;have ln:=hv.na.len;have lc:=hv.ca.len;have ll:=hv.la.len;have q0:=((Below.refl w.heap.size w).alloc (af _) (.cells #[v.kind,.slice Ai ni ci,.slice Ap np cp,.slice An nn cn,.slice Ac nc cc,.slice Al nl cl,v.code,v.env] 38)).alloc eA (.cells Bj.toArray 38);have kA:Blk ((w.alloc (.cells #[v.kind,.slice Ai ni ci,.slice Ap np cp,.slice An nn cn,.slice Ac nc cc,.slice Al nl cl,v.code,v.env] 38)).alloc (.cells Bj.toArray 38)) w.heap.size 38 [v.kind,.slice Ai ni ci,.slice Ap np cp,.slice An nn cn,.slice Ac nc cc,.slice Al nl cl,v.code,v.env]:=(Blk.new' (l:=[.int .i64 v.kind,.slice Ai ni ci,.slice Ap np cp,.slice An nn cn,.slice Ac nc cc,.slice Al nl cl,.int .i64 v.code,.int .i64 v.env])).al;have kR:=Blk.new' (w:=w.alloc (.cells #[v.kind,.slice Ai ni ci,.slice Ap np cp,.slice An nn cn,.slice Ac nc cc,.slice Al nl cl,v.code,v.env] 38)) (t:=38) (l:=Bj);simp only[dT]at kR;have s0:w.heap.size+2<=((w.alloc (.cells #[v.kind,.slice Ai ni ci,.slice Ap np cp,.slice An nn cn,.slice Ac nc cc,.slice Al nl cl,v.code,v.env] 38)).alloc (.cells Bj.toArray 38)).heap.size:=eA;have bi:ni<=500000000000:=dP;have bn:nn<=500000000000:=dP;have bc:nc<=500000000000:=dP;have bl:nl<=500000000000:=dP;have HCP:=aa hcp;clear hcp OD li ln lc ll;go_enter func56,ntmps56;go_upto_region 1 with fail
 generalize (w.alloc (.cells #[v.kind,.slice Ai ni ci,.slice Ap np cp,.slice An nn cn,.slice Ac nc cc,.slice Al nl cl,v.code,v.env] 38)).alloc (.cells Bj.toArray 38)=W0 at q0 kA kR s0 ⊢;refine aW (S:=(λW=>W.cell? ⟨w.heap.size,0,none⟩=some (.int .i64 v.kind)/\W.cell? ⟨w.heap.size,1,none⟩=some (.slice Ai ni ci)/\W.cell? ⟨w.heap.size,2,none⟩=some (.slice Ap np cp)/\W.cell? ⟨w.heap.size,3,none⟩=some (.slice An nn cn)/\W.cell? ⟨w.heap.size,4,none⟩=some (.slice Ac nc cc)/\W.cell? ⟨w.heap.size,5,none⟩=some (.slice Al nl cl)/\W.cell? ⟨w.heap.size,6,none⟩=some (.int .i64 v.code)/\W.cell? ⟨w.heap.size,7,none⟩=some (.int .i64 v.env))) dU (show _ from kA.c8) (λhH=>?_);refine k_ 0 ?_;refine k_ 1 ?_;refine k_ 3 ?_;refine k_ 4 ?_;refine k_ 6 ?_;refine k_ 7 ?_;refine k_ 10 ?_;refine k_ 11 ?_;refine k_ 14 ?_;refine k_ 15 ?_;refine k_ 18 ?_;refine k_ 19 ?_;refine k_ 21 ?_;refine k_ 22 ?_;refine k_ 23 ?_;refine k_ 24 ?_;refine Qo (lcI ps v Ai ni ci Ap np cp An nn cn Ac nc cc Al nl cl w W0) ?_ (λl a wx hI=>?_) ?_ dU ?_ _ _ _ _ ?_ ?_
 ·intro l a wx hI;obtain⟨b2,b5,b8,b9,Jc,Ht,Jd,Hu,Je,Hv,Dk,u5,u8,LP,Tl,OH,Tm,OI,Tn,OJ,Qn,F1,F2,F3,F4,F5,⟨rfl,rfl⟩,⟨k1,k2,bb,zx⟩,⟨p1,s2,p3,p4,p5⟩,⟨fr,lo⟩,h25,QM⟩:=hI;rfl
 ·obtain⟨b2,b5,b8,b9,Jc,Ht,Jd,Hu,Je,Hv,Dk,u5,u8,LP,Tl,OH,Tm,OI,Tn,OJ,Qn,F1,F2,F3,F4,F5,⟨rfl,rfl⟩,⟨k1,k2,bb,zx⟩,⟨p1,s2,p3,p4,p5⟩,⟨fr,lo⟩,h25,QM⟩:=hI;exact k1.c8
 ·intro i o l a wx ho hl Iu hI K hK;obtain⟨b2,b5,b8,b9,Jc,Ht,Jd,Hu,Je,Hv,Dk,u5,u8,LP,Tl,OH,Tm,OI,Tn,OJ,Qn,F1,F2,F3,F4,F5,⟨rfl,rfl⟩,⟨k1,k2,bb,zx⟩,⟨p1,s2,p3,p4,p5⟩,⟨fr,lo⟩,h25,QM⟩:=hI;have hi:i<27:=(cN.1 ho).1;have Tx:i=0\/i=1\/i=2\/i=3\/i=4\/i=5\/i=6\/i=7\/i=8\/i=9\/i=10\/i=11\/i=12\/i=13\/i=14\/i=15\/i=16\/i=17\/i=18\/i=19\/i=20\/i=21\/i=22\/i=23\/i=24\/i=25\/i=26:=dP;clear hi;rcases Tx with rfl|rfl|rfl|rfl|rfl|rfl|rfl|rfl|rfl|rfl|rfl|rfl|rfl|rfl|rfl|rfl|rfl|rfl|rfl|rfl|rfl|rfl|rfl|rfl|rfl|rfl|rfl
  ·exact ic
  ·exact ic
  ·simp only[bE,ag,ah,cE]at ho;subst ho;obtain rfl:b2=false:=jk;cases b5 with
   |true=>exact absurd p1 lh
   |false=>
   obtain rfl:Hv=false:=lB;obtain rfl:Dk=false:=lA;have k2:Blk wx (w.heap.size+1) 38 Bj:=k2;obtain rfl:F1=[]:=p1;have fx:Fresh (w.heap.size+2) ([]++([]++(F2++(F3++(F4++F5))))):=kC;have lx:Lo wx.heap.size ([]++([]++(F2++(F3++(F4++F5))))):=ky;have md:Mod [] wx (wx.alloc (.cells #[] 135)):=Mod.of_below ((Below.refl _ _).alloc (af _) _);have f2:=Fresh.mid (Y':=[wx.heap.size]) fx lx zx dR (λx hx=>by simp at hx;right;omega);have l2:=Lo.mid (C':=(wx.alloc (.cells #[] 135)).heap.size) (Y':=[wx.heap.size]) lx eA (Lo.one eA);go_simp;refine hK _ _ ⟨true,false,b8,b9,Jc,Ht,Jd,Hu,Je,false,false,.slice (some ⟨wx.heap.size,0,none⟩) 0 0,u8,LP,Tl,OH,Tm,OI,Tn,OJ,Qn,[wx.heap.size],F2,F3,F4,F5,⟨rfl,rfl⟩,⟨k1.al,k2.al,gT bb dP,by simp only[dT];omega⟩,⟨⟨wx.heap.size,rfl,rW underlying35⟩,vU s2 md dR,iX p3 md dR,iX p4 md dR,iX p5 md dR⟩,⟨by simpa [aS]using f2,by simpa [aS]using l2⟩,?_,QM⟩;exact λMD=>absurd MD dR
  ·exact ic
  ·exact ic
  ·simp only[bE,ag,ah,cE]at ho;subst ho;obtain rfl:b5=false:=jk;obtain rfl:b2=true:=by simpa [CD]using Iu ⟨2,.data⟩ dR rfl
   obtain rfl:Hv=false:=lB;obtain rfl:Dk=false:=lA;have k2:Blk wx (w.heap.size+1) 38 Bj:=k2;obtain⟨g,rfl,op⟩:=p1;have fx:Fresh (w.heap.size+2) ([]++(F1++(F2++(F3++(F4++F5))))):=kC;have lx:Lo wx.heap.size ([]++(F1++(F2++(F3++(F4++F5))))):=ky;have ap:=fx.apart;refine qc (f:=Item.toD) encItem kM dU nW uY rfl (.tmp 5) (.tmp 7) rfl (g:=g) (F:=F1) rfl op Ai ni ci w.heap.size v.items rfl (hv.it.below bb) (λx hx w'=>Yy (hv.ito x hx) w') dP eb ?_;intro A' c' w' F' oN hF md;have f2:=Fresh.mid (Y':=F') fx lx zx hF.1 hF.2;have l2:=Lo.mid (C':=w'.heap.size) (Y':=F') lx md.size (gC oN);have gB:∀x∈F1,w.heap.size+2<=x:=λx hx=>fr.2 x iF;have n1:w.heap.size ∉ F1:=λhx=>by have:=gB _ hx;omega
   have n2:w.heap.size+1 ∉ F1:=λhx=>by have:=gB _ hx;omega
   refine hK _ _ ⟨true,true,b8,b9,Jc,Ht,Jd,Hu,Je,false,false,.slice (some ⟨g,0,none⟩) 0 0,.slice A' ni c',LP,Tl,OH,Tm,OI,Tn,OJ,Qn,F',F2,F3,F4,F5,⟨rfl,rfl⟩,⟨k1.mod md n1,k2.mod md n2,jN bb md (λx hx=>by have:=gB x hx;omega) dP,by have:=md.size;omega⟩,⟨⟨A',_,c',rfl,oN⟩,vU s2 md (λg hg=>ap.2 g fe),iX p3 md (λg hg=>ap.2 g fe),iX p4 md (λg hg=>ap.2 g fe),iX p5 md (λg hg=>ap.2 g fe)⟩,⟨by simpa [aS]using f2,by simpa [aS]using l2⟩,?_,QM⟩;exact λMD=>absurd MD dR
  ·exact ic
  ·exact ic
  ·simp only[bE,ag,ah,cE]at ho;subst ho;obtain rfl:b8=false:=jk;obtain rfl:Hv=false:=lB;obtain rfl:Dk=false:=lA;have k2:Blk wx (w.heap.size+1) 38 Bj:=k2;obtain rfl:F2=[]:=s2;have fx:Fresh (w.heap.size+2) (F1++([]++(F3++(F4++F5)))):=kC;have lx:Lo wx.heap.size (F1++([]++(F3++(F4++F5)))):=ky;go_simp;refine(HCP.out _ _ _ _ (fb hv.pa bb bb.size)).mono ?_;rintro e w' ⟨A',n',c',F',rfl,oN,fN,bN⟩;have md:Mod [] wx w':=Mod.of_below bN;have f2:=Fresh.mid (Y':=F') fx lx zx fN.1 (λx hx=> .inr (fN.2 x hx));have l2:=Lo.mid (C':=w'.heap.size) (Y':=F') lx bN.size (gC oN);refine hK _ _ ⟨b2,b5,true,b9,Jc,Ht,Jd,Hu,Je,false,false,u5,u8,.slice A' n' c',Tl,OH,Tm,OI,Tn,OJ,Qn,F1,F',F3,F4,F5,⟨rfl,rfl⟩,⟨k1.next bN,k2.next bN,gR bb bN dP,by have:=bN.size;omega⟩,⟨iX p1 md dR,oN,iX p3 md dR,iX p4 md dR,iX p5 md dR⟩,⟨by simpa [aS]using f2,by simpa [aS]using l2⟩,?_,QM⟩;exact λMD=>absurd MD dR
  ·simp only[bE,ag,ah,cE]at ho;subst ho;obtain rfl:b9=false:=jk;cases Jc with
   |true=>exact absurd p3 lh
   |false=>
   obtain rfl:Hv=false:=lB;obtain rfl:Dk=false:=lA;have k2:Blk wx (w.heap.size+1) 38 Bj:=k2;obtain rfl:F3=[]:=p3;have fx:Fresh (w.heap.size+2) ((F1++F2)++([]++(F4++F5))):=kC;have lx:Lo wx.heap.size ((F1++F2)++([]++(F4++F5))):=ky;have md:Mod [] wx (wx.alloc (.cells #[] 9)):=Mod.of_below ((Below.refl _ _).alloc (af _) _);have f2:=Fresh.mid (Y':=[wx.heap.size]) fx lx zx dR (λx hx=>by simp at hx;right;omega);have l2:=Lo.mid (C':=(wx.alloc (.cells #[] 9)).heap.size) (Y':=[wx.heap.size]) lx eA (Lo.one eA);go_simp;refine hK _ _ ⟨b2,b5,b8,true,false,Ht,Jd,Hu,Je,false,false,u5,u8,LP,.slice (some ⟨wx.heap.size,0,none⟩) 0 0,OH,Tm,OI,Tn,OJ,Qn,F1,F2,[wx.heap.size],F4,F5,⟨rfl,rfl⟩,⟨k1.al,k2.al,gT bb dP,by simp only[dT];omega⟩,⟨iX p1 md dR,vU s2 md dR,⟨wx.heap.size,rfl,rW underlying25⟩,iX p4 md dR,iX p5 md dR⟩,⟨by simpa [aS]using f2,by simpa [aS]using l2⟩,?_,QM⟩;exact λMD=>absurd MD dR
  ·exact ic
  ·exact ic
  ·simp only[bE,ag,ah,cE]at ho;subst ho;obtain rfl:Jc=false:=jk;obtain rfl:b9=true:=by simpa [CD]using Iu ⟨9,.data⟩ dR rfl
   obtain rfl:Hv=false:=lB;obtain rfl:Dk=false:=lA;have k2:Blk wx (w.heap.size+1) 38 Bj:=k2;obtain⟨g,rfl,op⟩:=p3;have fx:Fresh (w.heap.size+2) ((F1++F2)++(F3++(F4++F5))):=kC;have lx:Lo wx.heap.size ((F1++F2)++(F3++(F4++F5))):=ky;have ap:=fx.apart;refine qc (f:=D.s) encS jm dU gW iK rfl (.tmp 12) (.tmp 14) rfl (g:=g) (F:=F3) rfl op An nn cn w.heap.size v.names rfl (hv.na.below bb) (λx hx w'=>Lx (hv.nao x hx) w') dP eb ?_;intro A' c' w' F' oN hF md;have f2:=Fresh.mid (Y':=F') fx lx zx hF.1 hF.2;have l2:=Lo.mid (C':=w'.heap.size) (Y':=F') lx md.size (gC oN);have gB:∀x∈F3,w.heap.size+2<=x:=λx hx=>fr.2 x iF;have n1:w.heap.size ∉ F3:=λhx=>by have:=gB _ hx;omega
   have n2:w.heap.size+1 ∉ F3:=λhx=>by have:=gB _ hx;omega
   refine hK _ _ ⟨b2,b5,b8,true,true,Ht,Jd,Hu,Je,false,false,u5,u8,LP,.slice (some ⟨g,0,none⟩) 0 0,.slice A' nn c',Tm,OI,Tn,OJ,Qn,F1,F2,F',F4,F5,⟨rfl,rfl⟩,⟨k1.mod md n1,k2.mod md n2,jN bb md (λx hx=>by have:=gB x hx;omega) dP,by have:=md.size;omega⟩,⟨iX p1 md (λg hg=>ap.1 g fe),vU s2 md (λg hg=>ap.1 g fe),⟨A',_,c',rfl,oN⟩,iX p4 md (λg hg=>ap.2 g fe),iX p5 md (λg hg=>ap.2 g fe)⟩,⟨by simpa [aS]using f2,by simpa [aS]using l2⟩,?_,QM⟩;exact λMD=>absurd MD dR
  ·simp only[bE,ag,ah,cE]at ho;subst ho;obtain rfl:Ht=false:=jk;cases Jd with
   |true=>exact absurd p4 lh
   |false=>
   obtain rfl:Hv=false:=lB;obtain rfl:Dk=false:=lA;have k2:Blk wx (w.heap.size+1) 38 Bj:=k2;obtain rfl:F4=[]:=p4;have fx:Fresh (w.heap.size+2) ((F1++(F2++F3))++([]++F5)):=kC;have lx:Lo wx.heap.size ((F1++(F2++F3))++([]++F5)):=ky;have md:Mod [] wx (wx.alloc (.cells #[] 9)):=Mod.of_below ((Below.refl _ _).alloc (af _) _);have f2:=Fresh.mid (Y':=[wx.heap.size]) fx lx zx dR (λx hx=>by simp at hx;right;omega);have l2:=Lo.mid (C':=(wx.alloc (.cells #[] 9)).heap.size) (Y':=[wx.heap.size]) lx eA (Lo.one eA);go_simp;refine hK _ _ ⟨b2,b5,b8,b9,Jc,true,false,Hu,Je,false,false,u5,u8,LP,Tl,OH,.slice (some ⟨wx.heap.size,0,none⟩) 0 0,OI,Tn,OJ,Qn,F1,F2,F3,[wx.heap.size],F5,⟨rfl,rfl⟩,⟨k1.al,k2.al,gT bb dP,by simp only[dT];omega⟩,⟨iX p1 md dR,vU s2 md dR,iX p3 md dR,⟨wx.heap.size,rfl,rW underlying25⟩,iX p5 md dR⟩,⟨by simpa [aS]using f2,by simpa [aS]using l2⟩,?_,QM⟩;exact λMD=>absurd MD dR
  ·exact ic
  ·exact ic
  ·simp only[bE,ag,ah,cE]at ho;subst ho;obtain rfl:Jd=false:=jk;obtain rfl:Ht=true:=by simpa [CD]using Iu ⟨13,.data⟩ dR rfl
   obtain rfl:Hv=false:=lB;obtain rfl:Dk=false:=lA;have k2:Blk wx (w.heap.size+1) 38 Bj:=k2;obtain⟨g,rfl,op⟩:=p4;have fx:Fresh (w.heap.size+2) ((F1++(F2++F3))++(F4++F5)):=kC;have lx:Lo wx.heap.size ((F1++(F2++F3))++(F4++F5)):=ky;have ap:=fx.apart;refine qc (f:=D.s) encS jm dU gW iK rfl (.tmp 16) (.tmp 18) rfl (g:=g) (F:=F4) rfl op Ac nc cc w.heap.size v.cls rfl (hv.ca.below bb) (λx hx w'=>Lx (hv.cao x hx) w') dP eb ?_;intro A' c' w' F' oN hF md;have f2:=Fresh.mid (Y':=F') fx lx zx hF.1 hF.2;have l2:=Lo.mid (C':=w'.heap.size) (Y':=F') lx md.size (gC oN);have gB:∀x∈F4,w.heap.size+2<=x:=λx hx=>fr.2 x iF;have n1:w.heap.size ∉ F4:=λhx=>by have:=gB _ hx;omega
   have n2:w.heap.size+1 ∉ F4:=λhx=>by have:=gB _ hx;omega
   refine hK _ _ ⟨b2,b5,b8,b9,Jc,true,true,Hu,Je,false,false,u5,u8,LP,Tl,OH,.slice (some ⟨g,0,none⟩) 0 0,.slice A' nc c',Tn,OJ,Qn,F1,F2,F3,F',F5,⟨rfl,rfl⟩,⟨k1.mod md n1,k2.mod md n2,jN bb md (λx hx=>by have:=gB x hx;omega) dP,by have:=md.size;omega⟩,⟨iX p1 md (λg hg=>ap.1 g fe),vU s2 md (λg hg=>ap.1 g fe),iX p3 md (λg hg=>ap.1 g fe),⟨A',_,c',rfl,oN⟩,iX p5 md (λg hg=>ap.2 g fe)⟩,⟨by simpa [aS]using f2,by simpa [aS]using l2⟩,?_,QM⟩;exact λMD=>absurd MD dR
  ·simp only[bE,ag,ah,cE]at ho;subst ho;obtain rfl:Hu=false:=jk;cases Je with
   |true=>exact absurd p5 lh
   |false=>
   obtain rfl:Hv=false:=lB;obtain rfl:Dk=false:=lA;have k2:Blk wx (w.heap.size+1) 38 Bj:=k2;obtain rfl:F5=[]:=p5;have fx:Fresh (w.heap.size+2) ((F1++(F2++(F3++F4)))++([]++[])):=kC;have lx:Lo wx.heap.size ((F1++(F2++(F3++F4)))++([]++[])):=ky;have md:Mod [] wx (wx.alloc (.cells #[] 9)):=Mod.of_below ((Below.refl _ _).alloc (af _) _);have f2:=Fresh.mid (Y':=[wx.heap.size]) fx lx zx dR (λx hx=>by simp at hx;right;omega);have l2:=Lo.mid (C':=(wx.alloc (.cells #[] 9)).heap.size) (Y':=[wx.heap.size]) lx eA (Lo.one eA);go_simp;refine hK _ _ ⟨b2,b5,b8,b9,Jc,Ht,Jd,true,false,false,false,u5,u8,LP,Tl,OH,Tm,OI,.slice (some ⟨wx.heap.size,0,none⟩) 0 0,OJ,Qn,F1,F2,F3,F4,[wx.heap.size],⟨rfl,rfl⟩,⟨k1.al,k2.al,gT bb dP,by simp only[dT];omega⟩,⟨iX p1 md dR,vU s2 md dR,iX p3 md dR,iX p4 md dR,⟨wx.heap.size,rfl,rW underlying25⟩⟩,⟨by simpa [aS]using f2,by simpa [aS]using l2⟩,?_,QM⟩;exact λMD=>absurd MD dR
  ·exact ic
  ·exact ic
  ·simp only[bE,ag,ah,cE]at ho;subst ho;obtain rfl:Je=false:=jk;obtain rfl:Hu=true:=by simpa [CD]using Iu ⟨17,.data⟩ dR rfl
   obtain rfl:Hv=false:=lB;obtain rfl:Dk=false:=lA;have k2:Blk wx (w.heap.size+1) 38 Bj:=k2;obtain⟨g,rfl,op⟩:=p5;have fx:Fresh (w.heap.size+2) ((F1++(F2++(F3++F4)))++(F5++[])):=kC;have lx:Lo wx.heap.size ((F1++(F2++(F3++F4)))++(F5++[])):=ky;have ap:=fx.apart;refine qc (f:=D.s) encS jm dU gW iK rfl (.tmp 20) (.tmp 22) rfl (g:=g) (F:=F5) rfl op Al nl cl w.heap.size v.levels rfl (hv.la.below bb) (λx hx w'=>Lx (hv.lao x hx) w') dP eb ?_;intro A' c' w' F' oN hF md;have f2:=Fresh.mid (Y':=F') fx lx zx hF.1 hF.2;have l2:=Lo.mid (C':=w'.heap.size) (Y':=F') lx md.size (gC oN);have gB:∀x∈F5,w.heap.size+2<=x:=λx hx=>fr.2 x iF;have n1:w.heap.size ∉ F5:=λhx=>by have:=gB _ hx;omega
   have n2:w.heap.size+1 ∉ F5:=λhx=>by have:=gB _ hx;omega
   refine hK _ _ ⟨b2,b5,b8,b9,Jc,Ht,Jd,true,true,false,false,u5,u8,LP,Tl,OH,Tm,OI,.slice (some ⟨g,0,none⟩) 0 0,.slice A' nl c',Qn,F1,F2,F3,F4,F',⟨rfl,rfl⟩,⟨k1.mod md n1,k2.mod md n2,jN bb md (λx hx=>by have:=gB x hx;omega) dP,by have:=md.size;omega⟩,⟨iX p1 md (λg hg=>ap.1 g fe),vU s2 md (λg hg=>ap.1 g fe),iX p3 md (λg hg=>ap.1 g fe),iX p4 md (λg hg=>ap.1 g fe),⟨A',_,c',rfl,oN⟩⟩,⟨by simpa [aS]using f2,by simpa [aS]using l2⟩,?_,QM⟩;exact λMD=>absurd MD dR
  ·exact ic
  ·exact ic
  ·exact ic
  ·exact ic
  ·simp only[bE,ag,ah,cE]at ho;subst ho;obtain rfl:Hv=false:=jk;obtain rfl:Dk=false:=by cases Dk with|false=>rfl|true=>exact absurd (QM rfl) dR
   obtain rfl:b5=true:=by simpa [CD]using Iu ⟨5,.data⟩ dR rfl
   obtain rfl:b8=true:=by simpa [CD]using Iu ⟨8,.data⟩ dR rfl
   obtain rfl:Jc=true:=by simpa [CD]using Iu ⟨12,.data⟩ dR rfl
   obtain rfl:Jd=true:=by simpa [CD]using Iu ⟨16,.data⟩ dR rfl
   obtain rfl:Je=true:=by simpa [CD]using Iu ⟨20,.data⟩ dR rfl
   obtain rfl:b2=true:=BW;obtain rfl:b9=true:=BX;obtain rfl:Ht=true:=BZ;obtain rfl:Hu=true:=BJ;have p10:=p1;obtain⟨A0,n0,c0,rfl,_⟩:=p1;have p30:=p3;obtain⟨A2,n2,c2,rfl,_⟩:=p3;have p40:=p4;obtain⟨A3,n3,c3,rfl,_⟩:=p4;have p50:=p5;obtain⟨A4,n4,c4,rfl,_⟩:=p5;obtain⟨A1,n1,c1,he1⟩:=fD (eW _ _ _ _ (show own prog wx (.sl (ps.map Vec.toD)) 36 F2 [LP] from s2));injection he1 with he1;subst he1;go_simp;refine hK _ _ ⟨true,true,true,true,true,true,true,true,true,true,false,_,_,_,_,_,_,_,_,_,_,F1,F2,F3,F4,F5,⟨rfl,rfl⟩,⟨k1,k2,bb,zx⟩,⟨p10,s2,p30,p40,p50⟩,⟨fr,lo⟩,λ_=>⟨⟨rfl,rfl,rfl,rfl,rfl⟩,rfl⟩,λh=>absurd h dR⟩
  ·simp only[bE,ag,ah,cE]at ho;subst ho;obtain rfl:Dk=false:=jk;obtain rfl:Hv=true:=by simpa [CD]using Iu ⟨25,.data⟩ dR rfl
   obtain⟨⟨rfl,rfl,rfl,rfl,rfl⟩,rfl⟩:=h25 rfl;obtain rfl:b2=true:=BW;obtain rfl:b9=true:=BX;obtain rfl:Ht=true:=BZ;obtain rfl:Hu=true:=BJ;obtain⟨A0,n0,c0,rfl,o0⟩:=p1;obtain⟨A2,n2,c2,rfl,o2⟩:=p3;obtain⟨A3,n3,c3,rfl,o3⟩:=p4;obtain⟨A4,n4,c4,rfl,o4⟩:=p5;have o1:own prog wx (.sl (ps.map Vec.toD)) 36 F2 [LP]:=s2;obtain⟨A1,n1,c1,he1⟩:=fD (eW _ _ _ _ o1);injection he1 with he1;subst he1;have k2':Blk wx (w.heap.size+1) 38 Bj:=k2;obtain⟨r0,r1,r2,r3,r4,r5,r6,r7⟩:=k2'.c8;have zr:=λi=>k2'.frozen i;have Tq:=zr 0;have zr1:=zr 1;have zr2:=zr 2;have zr3:=zr 3;have zr4:=zr 4;have zr5:=zr 5;have zr6:=zr 6;have zr7:=zr 7;clear zr;have gB:∀x∈(F1++(F2++(F3++(F4++F5)))),w.heap.size+2<=x:=fr.2;have nf1:w.heap.size+1 ∉ F1:=λhx=>by have:=gB (w.heap.size+1) iF;omega
   have nf2:w.heap.size+1 ∉ F2:=λhx=>by have:=gB (w.heap.size+1) iF;omega
   have nf3:w.heap.size+1 ∉ F3:=λhx=>by have:=gB (w.heap.size+1) iF;omega
   have nf4:w.heap.size+1 ∉ F4:=λhx=>by have:=gB (w.heap.size+1) iF;omega
   have nf5:w.heap.size+1 ∉ F5:=λhx=>by have:=gB (w.heap.size+1) iF;omega
   go_simp;refine hK _ _ ⟨true,true,true,true,true,true,true,true,true,true,true,_,_,_,_,_,_,_,_,_,_,F1,F2,F3,F4,F5,⟨rfl,rfl⟩,⟨?_,k2'.set8,?_,?_⟩,⟨⟨A0,n0,c0,rfl,?_⟩,?_,⟨A2,n2,c2,rfl,?_⟩,⟨A3,n3,c3,rfl,?_⟩,⟨A4,n4,c4,rfl,?_⟩⟩,⟨fr,?_⟩,λ_=>⟨⟨rfl,rfl,rfl,rfl,rfl⟩,rfl⟩,λ_=>rfl⟩
   ·exact uv
   ·exact mg
   ·simp only[dX];exact zx
   ·exact um
   ·show own _ _ _ _ _ _
    (repeat'(first|with_reducible assumption|with_reducible refine ft ?_ ?_))
   ·exact um
   ·exact um
   ·exact um
   ·simp only[dX];exact lo
 ·intro l a wx hI jb;obtain⟨b2,b5,b8,b9,Jc,Ht,Jd,Hu,Je,Hv,Dk,u5,u8,LP,Tl,OH,Tm,OI,Tn,OJ,Qn,F1,F2,F3,F4,F5,⟨rfl,rfl⟩,⟨k1,k2,bb,zx⟩,⟨p1,s2,p3,p4,p5⟩,⟨fr,lo⟩,h25,QM⟩:=hI;obtain rfl:b2=true:=by simpa [CD]using jb 2 dQ
  obtain rfl:b5=true:=by simpa [CD]using jb 5 dQ
  obtain rfl:b8=true:=by simpa [CD]using jb 8 dQ
  obtain rfl:b9=true:=by simpa [CD]using jb 9 dQ
  obtain rfl:Jc=true:=by simpa [CD]using jb 12 dQ
  obtain rfl:Ht=true:=by simpa [CD]using jb 13 dQ
  obtain rfl:Jd=true:=by simpa [CD]using jb 16 dQ
  obtain rfl:Hu=true:=by simpa [CD]using jb 17 dQ
  obtain rfl:Je=true:=by simpa [CD]using jb 20 dQ
  obtain rfl:Hv=true:=by simpa [CD]using jb 25 dQ
  obtain rfl:Dk=true:=by simpa [CD]using jb 26 dQ
  obtain⟨A0,n0,c0,rfl,o0⟩:=p1;obtain⟨A2,n2,c2,rfl,o2⟩:=p3;obtain⟨A3,n3,c3,rfl,o3⟩:=p4;obtain⟨A4,n4,c4,rfl,o4⟩:=p5;have o1:own prog wx (.sl (ps.map Vec.toD)) 36 F2 [LP]:=s2;obtain⟨A1,n1,c1,he1⟩:=fD (eW _ _ _ _ o1);injection he1 with he1;subst he1;have k2':Blk wx (w.heap.size+1) 38 [v.kind,.slice A0 n0 c0,.slice A1 n1 c1,.slice A2 n2 c2,.slice A3 n3 c3,.slice A4 n4 c4,v.code,v.env]:=k2;obtain⟨r0,r1,r2,r3,r4,r5,r6,r7⟩:=k2'.c8;have Cz:w.heap.size+1<wx.heap.size:=dP;go_wp2_with fail;refine bM (v:= .agg #[v.kind,.slice A0 n0 c0,.slice A1 n1 c1,.slice A2 n2 c2,.slice A3 n3 c3,.slice A4 n4 c4,v.code,v.env]) (by simp [results,results56,go_sem,r0,r1,r2,r3,r4,r5,r6,r7]) rfl ⟨_,F1++(F2++(F3++(F4++(F5++[])))),rfl,?_,?_,bb⟩
  ·exact jD (x:={v with parts:=ps}) hv.wk o0 o1 o2 o3 o4 hv.wc hv.we
  ·rw[bP];exact fr.mono dP
 ·decide
 ·refine⟨false,false,false,false,false,false,false,false,false,false,false,undef,undef,undef,undef,undef,undef,undef,undef,undef,undef,[],[],[],[],[],⟨?_,?_⟩,⟨kA.dw,kR.dw,q0.drew,s0⟩,⟨rfl,rfl,rfl,rfl,rfl⟩,⟨Fresh.nil,Lo.nil⟩,λh=>absurd h dR,λh=>absurd h dR⟩
  ·kernel_rfl
  ·kernel_rfl
theorem ru {P:Program} {xs:List D} (h:own P w (.sl xs) t F cs):∃A n c,cs=[.slice A n c]:=fD (eW _ _ _ _ h)
theorem uT {x:Vec} (h:own prog w x.toD 38 F cs):∃(Ai:Option Addr) (ni ci:Nat) (Ap:Option Addr) (np cp:Nat) (An:Option Addr) (nn cn:Nat) (Ac:Option Addr) (nc cc:Nat) (Al:Option Addr) (nl cl:Nat) (F1 F2 F3 F4 F5:List Nat),
 cs=[.int .i64 x.kind,.slice Ai ni ci,.slice Ap np cp,.slice An nn cn,.slice Ac nc cc,.slice Al nl cl,.int .i64 x.code,.int .i64 x.env]/\F=F1++(F2++(F3++(F4++F5)))/\(Lit.int .i64 x.kind).wf=true/\
 own prog w (.sl (x.items.map Item.toD)) 35 F1 [.slice Ai ni ci]/\own prog w (.sl (x.parts.map Vec.toD)) 36 F2 [.slice Ap np cp]/\own prog w (.sl (x.names.map .s)) 25 F3 [.slice An nn cn]/\
 own prog w (.sl (x.cls.map .s)) 25 F4 [.slice Ac nc cc]/\own prog w (.sl (x.levels.map .s)) 25 F5 [.slice Al nl cl]/\(Lit.int .i64 x.code).wf=true/\(Lit.int .i64 x.env).wf=true:=by
 rw[kF,own]at h;obtain⟨KW,css,hu,rfl,h⟩:=h;rw[underlying38]at hu;injection hu with hu;injection hu with hu;subst hu
 rw[iB]at h;obtain⟨t1,t2,G1,H1,c1,d1,ht,rfl,rfl,k1,h⟩:=h;injection ht with e1 e2;subst e1 e2
 rw[iB]at h;obtain⟨t1,t2,G2,H2,c2,d2,ht,rfl,rfl,k2,h⟩:=h;injection ht with e1 e2;subst e1 e2
 rw[iB]at h;obtain⟨t1,t2,G3,H3,c3,d3,ht,rfl,rfl,k3,h⟩:=h;injection ht with e1 e2;subst e1 e2
 rw[iB]at h;obtain⟨t1,t2,G4,H4,c4,d4,ht,rfl,rfl,k4,h⟩:=h;injection ht with e1 e2;subst e1 e2
 rw[iB]at h;obtain⟨t1,t2,G5,H5,c5,d5,ht,rfl,rfl,k5,h⟩:=h;injection ht with e1 e2;subst e1 e2
 rw[iB]at h;obtain⟨t1,t2,G6,H6,c6,d6,ht,rfl,rfl,k6,h⟩:=h;injection ht with e1 e2;subst e1 e2
 rw[iB]at h;obtain⟨t1,t2,G7,H7,c7,d7,ht,rfl,rfl,k7,h⟩:=h;injection ht with e1 e2;subst e1 e2
 rw[iB]at h;obtain⟨t1,t2,G8,H8,c8,d8,ht,rfl,rfl,k8,h⟩:=h;injection ht with e1 e2;subst e1 e2
 rw[iB]at h;obtain⟨_,rfl,rfl⟩:=h;rw[own]at k1 k7 k8;obtain⟨rfl,rfl,w1⟩:=k1;obtain⟨rfl,rfl,w7⟩:=k7;obtain⟨rfl,rfl,w8⟩:=k8;obtain⟨A2,n2,c2',rfl⟩:=ru k2;obtain⟨A3,n3,c3',rfl⟩:=ru k3;obtain⟨A4,n4,c4',rfl⟩:=ru k4;obtain⟨A5,n5,c5',rfl⟩:=ru k5;obtain⟨A6,n6,c6',rfl⟩:=ru k6;exact⟨_,_,_,_,_,_,_,_,_,_,_,_,_,_,_,G2,G3,G4,G5,G6,rfl,by simp,w1,k2,k3,k4,k5,k6,w7,w8⟩
theorem Li (A:Option Addr) (c:Nat) (w:World):Calls prog 127 #[.slice A 0 c] w (oK [] 36 w):=by go_enter func127,ntmps127;go_wp2_with fail;refine aZ 1 ?_;rw[dF];go_wp2_with fail;go_ret;exact⟨_,0,0,[w.heap.size],rfl,rW underlying36,⟨by simp,by simp⟩,(Below.refl _ _).alloc (af _) _⟩
theorem tZ (v:Vec) (hp:v.parts=[]) (cs:List Value) (w:World) (h:rep w w.heap.size v.toD cs) (hz:szD v.toD<=500000000000):Calls prog 56 #[av cs] w (gM v.toD 38 w):=by
 have:=JN v [] (λA n c w hr=>by rw[hp]at hr;have hl:=(ef hr).1;simp at hl;subst hl;exact Li A c w) cs w h hz
 have e:({v with parts:=[]}:Vec)=v:=by cases v;simp only at hp;subst hp;rfl
 rw[e]at this;exact this
structure FV (v:Vec):Prop where
 kind:0<=v.kind/\v.kind<=5
 len:v.items.length+v.parts.length<=40
 np:0<v.parts.length->v.kind=4
 ni:0<v.items.length->atomK v.kind=true
 names:∀x∈v.names,x.length<=60
 nn:v.names.length=0\/v.names.length=lenV v
 it:∀x∈v.items,itemOK v.kind x=true
 cls:v.cls.length<=3/\∀x∈v.cls,x.length<=60
 lev:v.levels.length<=20/\∀x∈v.levels,x.length<=60
 n5:v.kind=5->v.items.length=0/\v.parts.length=0/\v.names.length=0
theorem Yi {a l:List Str} (h:vE a l=true):∀x∈l,x.length<=60:=by
 induction l generalizing a with
 |nil=>simp
 |cons y t ih=>
  rw[vE]at h;simp only[ax,aL]at h;intro x hx;rcases aX.1 hx with rfl|hx
  ·exact h.1.1.2
  ·exact ih h.2 x hx
theorem Q0 {l:List Str} {m:Nat} (h:mF l m=true):l.length<=m/\∀x∈l,x.length<=60:=by simp only[mF,ax,aL]at h;exact⟨h.1,Yi h.2⟩
theorem FV.of (h:h_ v=true):FV v:=by
 simp only[h_,ax]at h;obtain⟨⟨⟨hA,hN⟩,hC⟩,hI⟩:=h;simp only[CO,ax,aL]at hA;obtain⟨⟨⟨k0,k5,hl⟩,hc⟩,kQ⟩:=hA;have hC2:IZ v.kind v.code v.env v.items.length v.parts.length v.names.length v.cls.length v.levels.length:=cD hC;obtain⟨c1,c2,c3,c4,c5⟩:=hC2;simp only[IY,ax,bX,aL,aV]at hN;rw[aV]at hI;have ad0:v.kind=5->v.parts.length=0:=λh5=>by
  rcases bz v.parts.length with h|h
  ·exact h
  ·have:=c2 h;omega
 have gK:v.items.length+v.parts.length<=40:=by
  by_cases h5:v.kind=5
  ·have:=c4 h5;have:=ad0 h5;omega
  ·rw[lenV,aH h5]at hl;exact hl
 have Uu:∀x∈v.items,atomK v.kind=true/\itemOK v.kind x=true:=λx hx=>by have:=hI x hx;simp only[wZ,SB,ax]at this;exact⟨this.1,this.2.1⟩
 refine⟨⟨k0,k5⟩,gK,c2,λh0=>?_,hN.2,?_,λx hx=>(Uu x hx).2,Q0 hc,Q0 kQ,λh5=>⟨(c4 h5).1,ad0 h5,(c4 h5).2.1⟩⟩
 ·exact(Uu _ (dA h0)).1
 ·rcases hN.1 with h|h
  ·exact .inl h
  ·exact .inr h.1
theorem jB {d:Nat} (h:okD d v=true):h_ v=true:=by cases d<;>(rw[okD]at h;simp only[ax]at h;exact h.1)
end Go.Proofs.YtekcpadlmfaihaaGreat
