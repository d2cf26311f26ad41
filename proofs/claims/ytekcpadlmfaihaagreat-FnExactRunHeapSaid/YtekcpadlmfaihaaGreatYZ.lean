/- Elements of owned slices in the one assertion for memory. -/
import Derived.Test.YtekcpadlmfaihaaGreatYO
import Derived.Test.YtekcpadlmfaihaaGreatYW
import Derived.Test.YtekcpadlmfaihaaGreatYP
import Derived.Test.YtekcpadlmfaihaaGreatYG
import Derived.Test.YtekcpadlmfaihaaGreatYA
import Derived.Test.YtekcpadlmfaihaaGreatYK
namespace Go.Proofs.YtekcpadlmfaihaaGreat
open Go.RowKit Proofs.Tryz
set_option maxHeartbeats 8000000
set_option maxRecDepth 100000
set_option linter.unusedSimpArgs false
set_option linter.unusedVariables false
variable {d:D} {frm tk y:Int} {x:Item} {R:List As} {X:List Nat} {l:List Str} {cs:List Value} {B c g m n:Nat} {P:Program} {p:Str} {α:Type} {e t:TypeId} {v:Vec} {w w0:World}
def xB (w:World) (g:Nat):Nat->List Value->World
 |_,[]=>w
 |o,v::t=>xB (w.setCell ⟨g,o,none⟩ v) g (o+1) t
theorem J0:∀{w:World} {g o:Nat} {cs:List Value},Mod [g] w (xB w g o cs)
 |_,_,_,[]=>Mod.refl
 |w,g,o,v::t=>by rw[xB];exact(JR (F:=[g]) (p:=⟨g,o,none⟩) dR v).trans J0 (λx hx=> .inl hx)
theorem JZ:∀{cs' cs pre post:List Value} {w:World} {g:Nat} {t:TypeId},Blk w g t (pre++(cs++post))->cs'.length=cs.length->Blk (xB w g pre.length cs') g t (pre++(cs'++post))
 |[],cs,pre,post,w,g,t,h,hl=>by obtain rfl:cs=[]:=aR.1 (by simpa using hl.symm);exact h
 |v::r,[],pre,post,w,g,t,h,hl=>by simp at hl
 |v::r,c::ct,pre,post,w,g,t,h,hl=>by rw[xB];have h1:=h.set_ pre.length v;rw[dI _ _ (af _),Nat.sub_self,cK,a_]at h1;have h2:Blk (w.setCell ⟨g,pre.length,none⟩ v) g t ((pre++[v])++(ct++post)):=mt;have h3:=JZ (cs':=r) h2 (by simpa using hl);rw[aY]at h3;simpa using h3
section
variable {P:Program} {w0 w:World} {X:List Nat} {R:List As} {xs:List D} {t e:TypeId} {A:Option Addr} {n c k:Nat} {d d':D} {cs':List Value}
theorem Mem.setEl (M:Mem P w0 X w (.ow (.sl xs) t [.slice A n c]:: .ow d' e cs'::R)) (ht:P.underlying t=some (.slice e)) (hk:xs[k]?=some d) (hl:∀F cs,own P w d e F cs->cs'.length=cs.length):
 ∃g,A=some ⟨g,0,none⟩/\(∀j,j<cs'.length->∃u,w.cell? ⟨g,k*cs'.length+j,none⟩=some u)/\(∀j,w.frozen? ⟨g,j,none⟩=false)/\g<w.heap.size/\Mem P w0 X (xB w g (k*cs'.length) cs') (.ow (.sl (xs.set k d')) t [.slice (some ⟨g,0,none⟩) n c]::R):=by
 obtain⟨F,h1,h2,h3⟩:=Mem.split [_,_] M;obtain⟨F1,F2,rfl,h4,h5⟩:=fJ.1 h1;have h5:=iQ.1 h5;obtain⟨g,Fa,Fd,Fb,cs,pre,post,rfl,rfl,o1,o2,o3,o4⟩:=ta ht h4 hk;have gK:=hl _ _ o1;rw[<-gK]at o2;have hn:=aE.1 h2;have hg2:g ∉ F2:=λhh=>hn.2.2 g dR g hh rfl;have hg:=aQ.1 hn.1;refine⟨g,rfl,λj hj=>?_,λj=>o3.frozen j,o3.lt,?_⟩
 ·have:(pre++(cs++post))[k*cs'.length+j]?=some ((cs[j]?).getD undef):=by rw[cV dP,cY dP];have:k*cs'.length+j - pre.length=j:=dP;rw[this];have XM:j<cs.length:=dP;simp [XM]
  exact⟨_,(o3.cell _).trans this⟩
 ·have hb:=JZ (cs':=cs') o3 gK;rw[o2]at hb;have Pu:Mod [g] w (xB w g (k*cs'.length) cs'):=J0;have UI:∀x,x∈Fa++Fb->(xB w g (k*cs'.length) cs').heap[x]?=w.heap[x]?:=λx hx=>Pu.2.2 x (jT _ _ _ _ h4 x wt) (by simp only[List.mem_singleton];rintro rfl;exact hg.1 wt)
  have h6:own P (xB w g (k*cs'.length) cs') d' e F2 cs':=nJ _ _ _ _ (λx hx=>Pu.2.2 x (jT _ _ _ _ h5 x hx) (by simp only[List.mem_singleton];rintro rfl;exact hg2 hx)) h5;have h7:=o4 _ d' cs' F2 dP h6 hb UI;refine h3 _ [_] _ (iQ.2 h7) ?_ ?_ (Pu.mono dR)
  ·have q1:=hg.1;have q2:=hg.2;simp only[aG,not_or]at q1;have q3:=aE.1 q2;have q4:=aE.1 q3.2.1;refine aQ.2 ⟨by simp only[aG,not_or];exact⟨q1.1,hg2,q1.2.2⟩,?_⟩;refine aE.2 ⟨q3.1,aE.2 ⟨hn.2.1,q4.2.1,?_⟩,?_⟩
   ·intro a ha b Tv e';subst e';exact hn.2.2 a (by simp [Tv]) a ha rfl
   ·intro a ha b Tv e';subst e';rcases aG.1 Tv with Tv|Tv
    ·exact hn.2.2 a (by simp [ha]) a Tv rfl
    ·exact q3.2.2 a ha a (by simp [Tv]) rfl
  ·intro x hx;left;simp only[aX,aG]at hx ⊢;rcases hx with rfl|hx|hx|hx<;>simp_all
theorem Mem.some0 (M:Mem P w0 X w (.ow (.sl xs) t [.slice A n c]::R)) (ht:P.underlying t=some (.slice e)) (hn:0<n):∃g,A=some ⟨g,0,none⟩:=by obtain⟨F,h1,h2,h3⟩:=Mem.split [_] M;have h4:=iQ.1 h1;have hl:=(ef (eW _ _ _ _ h4)).1;obtain⟨g,Fa,Fd,Fb,cs,pre,post,h5,_⟩:=ta (k:=0) (d:=xs[0]' dP) ht h4 (aw dP);exact⟨g,h5⟩
end
section
variable {w0 w:World} {X:List Nat} {R:List As} {A:Option Addr} {n c k:Nat} {l:List Item} {x y:Item}
theorem Mem.setItem (M:Mem prog w0 X w (.ow (.sl (l.map Item.toD)) 35 [.slice A n c]::R)) (hk:l[k]?=some x) (hy:itOK y):
 ∃g,A=some ⟨g,0,none⟩/\(∃u,w.cell? ⟨g,k*3,none⟩=some u)/\(∃u,w.cell? ⟨g,k*3+1,none⟩=some u)/\(∃u,w.cell? ⟨g,k*3+2,none⟩=some u)/\(∀j,w.frozen? ⟨g,j,none⟩=false)/\g<w.heap.size/\
  Mem prog w0 X (((w.setCell ⟨g,k*3,none⟩ (.int .i64 y.num)).setCell ⟨g,k*3+1,none⟩ (.int .i64 y.den)).setCell ⟨g,k*3+2,none⟩ (sv y.text)) (.ow (.sl ((l.set k y).map Item.toD)) 35 [.slice (some ⟨g,0,none⟩) n c]::R):=by
 obtain⟨g,h1,h2,h3,h4,h5⟩:=Mem.setEl (k:=k) (d:=x.toD) (d':=y.toD) (cs':=[.int .i64 y.num,.int .i64 y.den,sv y.text]) ((M.item hy).pull 1 rfl) underlying35 sC (λF cs h=>by obtain⟨_,rfl,_⟩:=yZ h;rfl);refine⟨g,h1,h2 0 dR,h2 1 dR,h2 2 dR,h3,h4,?_⟩;rw[<-dH]at h5;exact h5
theorem Mem.setStr {l:List Str} {x y:Str} (M:Mem prog w0 X w (.ow (.sl (l.map .s)) 25 [.slice A n c]::R)) (hk:l[k]?=some x) (hy:y.length<=maxLen):
 ∃g,A=some ⟨g,0,none⟩/\(∃u,w.cell? ⟨g,k,none⟩=some u)/\(∀j,w.frozen? ⟨g,j,none⟩=false)/\g<w.heap.size/\
  Mem prog w0 X (w.setCell ⟨g,k,none⟩ (sv y)) (.ow (.sl ((l.set k y).map .s)) 25 [.slice (some ⟨g,0,none⟩) n c]::R):=by
 obtain⟨g,h1,h2,h3,h4,h5⟩:=Mem.setEl (k:=k) (d:= .s x) (d':= .s y) (cs':=[sv y]) ((M.str (t:=9) hy).pull 1 rfl) underlying25 sC (λF cs h=>by obtain⟨_,rfl⟩:=Yz _ _ _ h;rfl);refine⟨g,h1,by have:=h2 0 dR;simpa using this,h3,h4,?_⟩;rw[<-dH]at h5;simp only[bt,cu]at h5;exact h5
theorem Mem.setVec {l:List Vec} {x y:Vec} {cs:List Value} (M:Mem prog w0 X w (.ow (.sl (l.map Vec.toD)) 36 [.slice A n c]:: .ow y.toD 38 cs::R)) (hk:l[k]?=some x):
 ∃g,A=some ⟨g,0,none⟩/\cs.length=8/\(∀j,j<8->∃u,w.cell? ⟨g,k*8+j,none⟩=some u)/\(∀j,w.frozen? ⟨g,j,none⟩=false)/\g<w.heap.size/\
  Mem prog w0 X (xB w g (k*8) cs) (.ow (.sl ((l.set k y).map Vec.toD)) 36 [.slice (some ⟨g,0,none⟩) n c]::R):=by
 have h8:∀{w:World} {z:Vec} {F:List Nat} {cs:List Value},own prog w z.toD 38 F cs->cs.length=8:=λh=>by obtain⟨_,_,_,_,_,_,_,_,_,_,_,_,_,_,_,_,_,_,_,_,rfl,-⟩:=jE h;rfl
 obtain⟨F,ho⟩:=M.own_ (d:=y.toD) (t:=38) (cs:=cs) dR;have hc:=h8 ho;obtain⟨g,h1,h2,h3,h4,h5⟩:=Mem.setEl (k:=k) (d:=x.toD) M underlying36 sC (λF cs h=>by rw[hc,h8 h]);rw[hc]at h2 h5;rw[<-dH]at h5;exact⟨g,h1,hc,h2,h3,h4,h5⟩
end
theorem pN (k:Int) (hk:¬k=5) (Ai:Option Addr) (ni ci:Nat) (Ap:Option Addr) (np cp:Nat) (An:Option Addr) (nn cn:Nat) (Ac:Option Addr) (nc cc:Nat) (Al:Option Addr) (nl cl:Nat) (co en:Int) (hl:(ni:Int)+np<=1000000) (w:World):
 Calls prog 107 #[.agg #[k,.slice Ai ni ci,.slice Ap np cp,.slice An nn cn,.slice Ac nc cc,.slice Al nl cl,co,en]] w λe w'=>e= .returned (.int .i64 ((ni+np:Nat):Int))/\Below w.heap.size w w':=by
 have hd:(k==5)=false:=jg;go_enter func107,ntmps107;go_wp2_with fail;go_ret;exact⟨eZ dP,(Below.refl _ _).alloc (af _) _⟩
theorem t8 (k:Int) (hk:¬k=5) (Ai:Option Addr) (ni ci:Nat) (Ap:Option Addr) (np cp:Nat) (An:Option Addr) (nn cn:Nat) (Ac:Option Addr) (nc cc:Nat) (Al:Option Addr) (nl cl:Nat) (co en:Int) (hl:(ni:Int)+np<=1000000) (w:World):
 Calls prog 118 #[.agg #[k,.slice Ai ni ci,.slice Ap np cp,.slice An nn cn,.slice Ac nc cc,.slice Al nl cl,co,en]] w λe w'=>e= .returned (.int .i64 ((ni+np:Nat):Int))/\Below w.heap.size w w':=by
 have hd:(k==5)=false:=jg;go_enter func118,ntmps118;go_wp2_with fail;go_ret;exact⟨eZ dP,(Below.refl _ _).alloc (af _) _⟩
def zV8:List Value:=[.int .i64 0,.slice none 0 0,.slice none 0 0,.slice none 0 0,.slice none 0 0,.slice none 0 0,.int .i64 0,.int .i64 0]
def E_:Str:=[114,101,115,117,108,116,32,105,115,32,116,111,111,32,108,97,114,103,101]
theorem Ue (v:Vec) (cs:List Value) (w:World) (h:rep w w.heap.size v.toD cs) (ga:bigV v):
 Calls prog 161 #[.agg cs.toArray] w λe w'=>e= .returned (.tuple #[.agg (if isVec v=true then cs else zV8).toArray,sv (if isVec v=true then[] else E_)])/\Below w.heap.size w w':=by
 have h0:=h;obtain⟨Ai,ni,ci,Ap,np,cp,An,nn,cn,Ac,nc,cc,Al,nl,cl,rfl,wk,ri,rp,rn,rc,rl,wc,we⟩:=fw h;have q0:Below w.heap.size w ((w.alloc (.cells #[v.kind,.slice Ai ni ci,.slice Ap np cp,.slice An nn cn,.slice Ac nc cc,.slice Al nl cl,v.code,v.env] 38)).alloc (.cells #[.int .i64 0,(),(),(),(),(),.int .i64 0,.int .i64 0] 38)):=((Below.refl _ _).alloc (af _) _).alloc dR _;have k1:Blk ((w.alloc (.cells #[v.kind,.slice Ai ni ci,.slice Ap np cp,.slice An nn cn,.slice Ac nc cc,.slice Al nl cl,v.code,v.env] 38)).alloc (.cells #[.int .i64 0,(),(),(),(),(),.int .i64 0,.int .i64 0] 38)) w.heap.size 38 [v.kind,.slice Ai ni ci,.slice Ap np cp,.slice An nn cn,.slice Ac nc cc,.slice Al nl cl,v.code,v.env]:=(Blk.new' (l:=[.int .i64 v.kind,.slice Ai ni ci,.slice Ap np cp,.slice An nn cn,.slice Ac nc cc,.slice Al nl cl,.int .i64 v.code,.int .i64 v.env])).al;have k2:Blk ((w.alloc (.cells #[v.kind,.slice Ai ni ci,.slice Ap np cp,.slice An nn cn,.slice Ac nc cc,.slice Al nl cl,v.code,v.env] 38)).alloc (.cells #[.int .i64 0,(),(),(),(),(),.int .i64 0,.int .i64 0] 38)) (w.heap.size+1) 38 [.int .i64 0,(),(),(),(),(),.int .i64 0,.int .i64 0]:=ya;have Xw:=ff v _ _ (fb h0 q0 q0.size) ga;cases hv:isVec v with
 |true=>
  rw[hv]at Xw;go_enter func161,ntmps161;go_wp2_with fail;refine Xw.mono ?_;rintro e w1 ⟨rfl,hb1⟩;have D6:=k1.next hb1;have D8:=k2.next hb1;obtain⟨a0,a1,a2,a3,a4,a5,a6,a7⟩:=D6.c8;obtain⟨r0,r1,r2,r3,r4,r5,r6,r7⟩:=D8.c8;have zr:=λi=>D8.frozen i;have Tq:=zr 0;have zr1:=zr 1;have zr2:=zr 2;have zr3:=zr 3;have zr4:=zr 4;have zr5:=zr 5;have zr6:=zr 6;have zr7:=zr 7;have XB:w.heap.size<w1.heap.size:=D6.lt;have Cz:w.heap.size+1<w1.heap.size:=D8.lt;have fz1:=D6.frozen 3;clear zr;go_wp2_with fail;refine bM (v:= .tuple #[.agg #[v.kind,.slice Ai ni ci,.slice Ap np cp,.slice An nn cn,.slice Ac nc cc,.slice Al nl cl,v.code,v.env],sv []]) (by simp [results,results161,go_sem,r0,r1,r2,r3,r4,r5,r6,r7,Cz]) rfl ⟨rfl,?_⟩
  (repeat'(first|with_reducible assumption|with_reducible exact Below.refl _ _|with_reducible refine jR ?_|with_reducible refine gT ?_ ?_|with_reducible refine ie ?_ ?_|with_reducible refine gR ?_ dY ?_|((try simp only[dW,dT,dX]);omega)))
 |false=>
  rw[hv]at Xw;go_enter func161,ntmps161;go_wp2_with fail;refine Xw.mono ?_;rintro e w1 ⟨rfl,hb1⟩;have D6:=k1.next hb1;have D8:=k2.next hb1;obtain⟨a0,a1,a2,a3,a4,a5,a6,a7⟩:=D6.c8;obtain⟨r0,r1,r2,r3,r4,r5,r6,r7⟩:=D8.c8;have zr:=λi=>D8.frozen i;have Tq:=zr 0;have zr1:=zr 1;have zr2:=zr 2;have zr3:=zr 3;have zr4:=zr 4;have zr5:=zr 5;have zr6:=zr 6;have zr7:=zr 7;have XB:w.heap.size<w1.heap.size:=D6.lt;have Cz:w.heap.size+1<w1.heap.size:=D8.lt;have fz1:=D6.frozen 3;clear zr;go_wp2_with fail;refine bM (v:= .tuple #[.agg #[.int .i64 0,(),(),(),(),(),.int .i64 0,.int .i64 0],sv E_]) (by simp [results,results161,go_sem,r0,r1,r2,r3,r4,r5,r6,r7,Cz];try rfl) rfl ⟨rfl,?_⟩
  (repeat'(first|with_reducible assumption|with_reducible exact Below.refl _ _|with_reducible refine jR ?_|with_reducible refine gT ?_ ?_|with_reducible refine ie ?_ ?_|with_reducible refine gR ?_ dY ?_|((try simp only[dW,dT,dX]);omega)))
theorem SJ (v:Vec) (cs:List Value) (w:World) (h:rep w w.heap.size v.toD cs) (ga:bigV v):
 Calls prog 124 #[.agg cs.toArray] w λe w'=>e= .returned (.tuple #[.agg (if isVec v=true then cs else zV8).toArray,sv (if isVec v=true then[] else E_)])/\Below w.heap.size w w':=by
 have h0:=h;obtain⟨Ai,ni,ci,Ap,np,cp,An,nn,cn,Ac,nc,cc,Al,nl,cl,rfl,wk,ri,rp,rn,rc,rl,wc,we⟩:=fw h;have q0:Below w.heap.size w ((w.alloc (.cells #[v.kind,.slice Ai ni ci,.slice Ap np cp,.slice An nn cn,.slice Ac nc cc,.slice Al nl cl,v.code,v.env] 38)).alloc (.cells #[.int .i64 0,(),(),(),(),(),.int .i64 0,.int .i64 0] 38)):=((Below.refl _ _).alloc (af _) _).alloc dR _;have k1:Blk ((w.alloc (.cells #[v.kind,.slice Ai ni ci,.slice Ap np cp,.slice An nn cn,.slice Ac nc cc,.slice Al nl cl,v.code,v.env] 38)).alloc (.cells #[.int .i64 0,(),(),(),(),(),.int .i64 0,.int .i64 0] 38)) w.heap.size 38 [v.kind,.slice Ai ni ci,.slice Ap np cp,.slice An nn cn,.slice Ac nc cc,.slice Al nl cl,v.code,v.env]:=(Blk.new' (l:=[.int .i64 v.kind,.slice Ai ni ci,.slice Ap np cp,.slice An nn cn,.slice Ac nc cc,.slice Al nl cl,.int .i64 v.code,.int .i64 v.env])).al;have k2:Blk ((w.alloc (.cells #[v.kind,.slice Ai ni ci,.slice Ap np cp,.slice An nn cn,.slice Ac nc cc,.slice Al nl cl,v.code,v.env] 38)).alloc (.cells #[.int .i64 0,(),(),(),(),(),.int .i64 0,.int .i64 0] 38)) (w.heap.size+1) 38 [.int .i64 0,(),(),(),(),(),.int .i64 0,.int .i64 0]:=ya;have Xw:=ew v _ _ (fb h0 q0 q0.size) ga;cases hv:isVec v with
 |true=>
  rw[hv]at Xw;go_enter func124,ntmps124;go_wp2_with fail;refine Xw.mono ?_;rintro e w1 ⟨rfl,hb1⟩;have D6:=k1.next hb1;have D8:=k2.next hb1;obtain⟨a0,a1,a2,a3,a4,a5,a6,a7⟩:=D6.c8;obtain⟨r0,r1,r2,r3,r4,r5,r6,r7⟩:=D8.c8;have zr:=λi=>D8.frozen i;have Tq:=zr 0;have zr1:=zr 1;have zr2:=zr 2;have zr3:=zr 3;have zr4:=zr 4;have zr5:=zr 5;have zr6:=zr 6;have zr7:=zr 7;have XB:w.heap.size<w1.heap.size:=D6.lt;have Cz:w.heap.size+1<w1.heap.size:=D8.lt;have fz1:=D6.frozen 3;clear zr;go_wp2_with fail;refine bM (v:= .tuple #[.agg #[v.kind,.slice Ai ni ci,.slice Ap np cp,.slice An nn cn,.slice Ac nc cc,.slice Al nl cl,v.code,v.env],sv []]) (by simp [results,results124,go_sem,r0,r1,r2,r3,r4,r5,r6,r7,Cz]) rfl ⟨rfl,?_⟩
  (repeat'(first|with_reducible assumption|with_reducible exact Below.refl _ _|with_reducible refine jR ?_|with_reducible refine gT ?_ ?_|with_reducible refine ie ?_ ?_|with_reducible refine gR ?_ dY ?_|((try simp only[dW,dT,dX]);omega)))
 |false=>
  rw[hv]at Xw;go_enter func124,ntmps124;go_wp2_with fail;refine Xw.mono ?_;rintro e w1 ⟨rfl,hb1⟩;have D6:=k1.next hb1;have D8:=k2.next hb1;obtain⟨a0,a1,a2,a3,a4,a5,a6,a7⟩:=D6.c8;obtain⟨r0,r1,r2,r3,r4,r5,r6,r7⟩:=D8.c8;have zr:=λi=>D8.frozen i;have Tq:=zr 0;have zr1:=zr 1;have zr2:=zr 2;have zr3:=zr 3;have zr4:=zr 4;have zr5:=zr 5;have zr6:=zr 6;have zr7:=zr 7;have XB:w.heap.size<w1.heap.size:=D6.lt;have Cz:w.heap.size+1<w1.heap.size:=D8.lt;have fz1:=D6.frozen 3;clear zr;go_wp2_with fail;refine bM (v:= .tuple #[.agg #[.int .i64 0,(),(),(),(),(),.int .i64 0,.int .i64 0],sv E_]) (by simp [results,results124,go_sem,r0,r1,r2,r3,r4,r5,r6,r7,Cz];try rfl) rfl ⟨rfl,?_⟩
  (repeat'(first|with_reducible assumption|with_reducible exact Below.refl _ _|with_reducible refine jR ?_|with_reducible refine gT ?_ ?_|with_reducible refine ie ?_ ?_|with_reducible refine gR ?_ dY ?_|((try simp only[dW,dT,dX]);omega)))
theorem Lk (k:Int) (w:World):Calls prog 159 #[k] w λe w'=>e= .returned (.int .i64 (if k=5 then 4 else k))/\w=w':=by
 by_cases hk:k=5
 ·have d0:(k==5)=true:=by simp [hk]
  have HK:=aa hk;clear hk;go_enter func159,ntmps159;go_wp2_with fail;go_ret;exact⟨eZ (by first|rfl|rw[aN HK.out]),rfl⟩
 ·have d0:(k==5)=false:=by simp [hk]
  have HK:=aa hk;clear hk;go_enter func159,ntmps159;go_wp2_with fail;go_ret;exact⟨eZ (by first|rfl|rw[aH HK.out]),rfl⟩
theorem I7 (v:Vec) (Ai:Option Addr) (ni ci:Nat) (Ap:Option Addr) (np cp:Nat) (An:Option Addr) (nn cn:Nat) (Ac:Option Addr) (nc cc:Nat) (Al:Option Addr) (nl cl:Nat) (w:World) (h:rep w w.heap.size v.toD [v.kind,.slice Ai ni ci,.slice Ap np cp,.slice An nn cn,.slice Ac nc cc,.slice Al nl cl,v.code,v.env]):
 Calls prog 154 #[.agg #[v.kind,.slice Ai ni ci,.slice Ap np cp,.slice An nn cn,.slice Ac nc cc,.slice Al nl cl,v.code,v.env]] w λe w'=>e= .returned (.agg (if lR v.names=true then #[v.kind,.slice Ai ni ci,.slice Ap np cp,(),.slice Ac nc cc,.slice Al nl cl,v.code,v.env] else #[v.kind,.slice Ai ni ci,.slice Ap np cp,.slice An nn cn,.slice Ac nc cc,.slice Al nl cl,v.code,v.env]))/\Below w.heap.size w w':=by
 have h0:=h;obtain⟨Ru,SN,RP,Rx,SP,RS,Ct,CE,Hw,L4,JS,L7,Rv,SO,Mz,lK,wk,ri,rp,rn,rc,rl,wc,we⟩:=fw h;simp only[bF,bG,dy,cO]at lK;obtain⟨⟨rfl,rfl,rfl⟩,⟨rfl,rfl,rfl⟩,⟨rfl,rfl,rfl⟩,⟨rfl,rfl,rfl⟩,rfl,rfl,rfl⟩:=lK;have q0:Below w.heap.size w ((w.alloc (.cells #[v.kind,.slice Ai ni ci,.slice Ap np cp,.slice An nn cn,.slice Ac nc cc,.slice Al nl cl,v.code,v.env] 38)).alloc (.cells #[.int .i64 0,(),(),(),(),(),.int .i64 0,.int .i64 0] 38)):=((Below.refl _ _).alloc (af _) _).alloc dR _;have k1:Blk ((w.alloc (.cells #[v.kind,.slice Ai ni ci,.slice Ap np cp,.slice An nn cn,.slice Ac nc cc,.slice Al nl cl,v.code,v.env] 38)).alloc (.cells #[.int .i64 0,(),(),(),(),(),.int .i64 0,.int .i64 0] 38)) w.heap.size 38 [v.kind,.slice Ai ni ci,.slice Ap np cp,.slice An nn cn,.slice Ac nc cc,.slice Al nl cl,v.code,v.env]:=(Blk.new' (l:=[.int .i64 v.kind,.slice Ai ni ci,.slice Ap np cp,.slice An nn cn,.slice Ac nc cc,.slice Al nl cl,.int .i64 v.code,.int .i64 v.env])).al;have k2:Blk ((w.alloc (.cells #[v.kind,.slice Ai ni ci,.slice Ap np cp,.slice An nn cn,.slice Ac nc cc,.slice Al nl cl,v.code,v.env] 38)).alloc (.cells #[.int .i64 0,(),(),(),(),(),.int .i64 0,.int .i64 0] 38)) (w.heap.size+1) 38 [.int .i64 0,(),(),(),(),(),.int .i64 0,.int .i64 0]:=ya;obtain⟨An1,nn1,cn1,he,Nh,hnm,Nj,-⟩:=(ls _ _ _ _).1 (fb rn q0 q0.size);injection he with he;injection he with f1 f2 f3;subst f1 f2 f3
 have hAE:=za An nn cn v.names _ Nj dP;cases hv:lR v.names with
 |true=>
  rw[hv]at hAE;go_enter func154,ntmps154;go_wp2_with fail;refine hAE.mono ?_;rintro e w1 ⟨rfl,hb1⟩;have D6:=k1.next hb1;have D8:=k2.next hb1;obtain⟨a0,a1,a2,a3,a4,a5,a6,a7⟩:=D6.c8;obtain⟨r0,r1,r2,r3,r4,r5,r6,r7⟩:=D8.c8;have zr:=λi=>D8.frozen i;have Tq:=zr 0;have zr1:=zr 1;have zr2:=zr 2;have zr3:=zr 3;have zr4:=zr 4;have zr5:=zr 5;have zr6:=zr 6;have zr7:=zr 7;have XB:w.heap.size<w1.heap.size:=D6.lt;have Cz:w.heap.size+1<w1.heap.size:=D8.lt;have fz1:=D6.frozen 3;clear zr;go_wp2_with fail;refine bM (v:= .agg #[v.kind,.slice Ai ni ci,.slice Ap np cp,(),.slice Ac nc cc,.slice Al nl cl,v.code,v.env]) BT rfl ⟨rfl,?_⟩
  (repeat'(first|with_reducible assumption|with_reducible exact Below.refl _ _|with_reducible refine jR ?_|with_reducible refine gT ?_ ?_|with_reducible refine ie ?_ ?_|with_reducible refine gR ?_ dY ?_|((try simp only[dW,dT,dX]);omega)))
 |false=>
  rw[hv]at hAE;go_enter func154,ntmps154;go_wp2_with fail;refine hAE.mono ?_;rintro e w1 ⟨rfl,hb1⟩;have D6:=k1.next hb1;have D8:=k2.next hb1;obtain⟨a0,a1,a2,a3,a4,a5,a6,a7⟩:=D6.c8;obtain⟨r0,r1,r2,r3,r4,r5,r6,r7⟩:=D8.c8;have zr:=λi=>D8.frozen i;have Tq:=zr 0;have zr1:=zr 1;have zr2:=zr 2;have zr3:=zr 3;have zr4:=zr 4;have zr5:=zr 5;have zr6:=zr 6;have zr7:=zr 7;have XB:w.heap.size<w1.heap.size:=D6.lt;have Cz:w.heap.size+1<w1.heap.size:=D8.lt;have fz1:=D6.frozen 3;clear zr;go_wp2_with fail;refine bM (v:= .agg #[v.kind,.slice Ai ni ci,.slice Ap np cp,.slice An nn cn,.slice Ac nc cc,.slice Al nl cl,v.code,v.env]) BT rfl ⟨rfl,?_⟩
  (repeat'(first|with_reducible assumption|with_reducible exact Below.refl _ _|with_reducible refine jR ?_|with_reducible refine gT ?_ ?_|with_reducible refine ie ?_ ?_|with_reducible refine gR ?_ dY ?_|((try simp only[dW,dT,dX]);omega)))
theorem sK (x:Int) (h1:1<=x) (h2:x<=40) (w:World):Calls prog 111 #[x,.int .i64 1] w λe w'=>e= .returned (Me ⟨x,1,[]⟩)/\Below w.heap.size w w':=by
 have hg:Nat.gcd x.natAbs (1:Int).natAbs=1:=dR;have d1:decide (x< -4000000000000000000)=false:=dS;have d2:decide (4000000000000000000<x)=false:=dS;have HG:=aa hg;clear hg;have kR:Blk (w.alloc (.cells #[.int .i64 0,.int .i64 0,sv []] 135)) w.heap.size 135 [.int .i64 0,.int .i64 0,sv []]:=Blk.new' (l:=[.int .i64 0,.int .i64 0,sv []]);go_enter func111,ntmps111;go_wp2_with fail;refine(QL x 1 _ dP dP dP dP).mono ?_;rintro e w1 ⟨rfl,hb1⟩;rw[HG.out];obtain⟨hc1,hf1⟩:=fY hb1;have z1:=hb1.size;(try simp only[dW,dT,dX]at hc1 hf1 z1);have y1:w.heap.size<w1.heap.size:=dP;have hn:nZ ⟨x,1,[]⟩=true:=by simp [nZ];omega
 have HN:=aa hn;clear hn;go_wp2_with fail;refine bu ?_;refine aW (S:=λ_=>True) dU bO (λhH=>?_);have SX:True:=bO;refine ey 0 ?_;refine ey 1 ?_;refine ey 2 ?_;refine ey 3 ?_;refine ey 4 ?_;refine ey 5 ?_;refine ey 6 ?_;refine fZ 7 ?_;intro K hK;go_simp;refine hK _ _ ⟨bO,?_⟩;refine iW ?_;refine fZ 8 ?_;intro K hK;go_simp;refine hK _ _ ⟨bO,?_⟩;refine iW ?_;refine bv dU ?_ _;refine ba ?_;go_wp2_with fail;refine(pA ⟨x,1,[]⟩ _).mono ?_;rw[HN.out];rintro e w2 ⟨rfl,jS⟩;obtain⟨hc2,hf2⟩:=fY jS;have z2:=jS.size;(try simp only[dW,dT,dX]at hc2 hf2 z2);have y2:w.heap.size<w2.heap.size:=dP;have y3:w1.heap.size<w2.heap.size:=dP;have y4:w.heap.size<w1.heap.size+1:=dP;obtain⟨r0,r1,r2⟩:=Blk.c3 (Blk.next (Blk.dw (Blk.al (kR.next hb1))) jS);go_wp2_with fail;refine bM (v:=Me ⟨x,1,[]⟩) (by simp [results,results111,go_sem,r0,r1,r2,y1,y2,y3]) rfl ⟨rfl,?_⟩
 (repeat'(first|with_reducible assumption|with_reducible exact Below.refl _ _|with_reducible refine jR ?_|with_reducible refine gT ?_ ?_|with_reducible refine ie ?_ ?_|with_reducible refine gR ?_ dY ?_|((try simp only[dW,dT,dX]);omega)))
theorem xD (x:Int) (h1:1<=x) (h2:x<=40) (w:World):Calls prog 126 #[x,.int .i64 1] w λe w'=>e= .returned (Me ⟨x,1,[]⟩)/\Below w.heap.size w w':=by
 have hg:Nat.gcd x.natAbs (1:Int).natAbs=1:=dR;have d1:decide (-4000000000000000000<=x/\x<=4000000000000000000)=true:=dS;have d3:decide (-999999999<=x/\x<=999999999)=true:=dS;have d4:decide ((-4000000000000000000:Int)<=1/\(1:Int)<=4000000000000000000)=true:=dR;have HG:=aa hg;have D1:=aa d1;have D3:=aa d3;clear hg d1 d3;have kR:Blk (w.alloc (.cells #[.int .i64 0,.int .i64 0,sv []] 135)) w.heap.size 135 [.int .i64 0,.int .i64 0,sv []]:=Blk.new' (l:=[.int .i64 0,.int .i64 0,sv []]);go_enter func126,ntmps126;go_wp2_with fail;refine(gj _ _ _ _).mono ?_;rw[D1.out];rintro e w1 ⟨rfl,rfl⟩;go_wp2_with fail;refine(gj _ _ _ _).mono ?_;rw[d4];rintro e w1 ⟨rfl,rfl⟩;go_wp2_with fail;refine(JM x 1 _ dP dP dP dP).mono ?_;rintro e w1 ⟨rfl,hb1⟩;rw[HG.out];obtain⟨hc1,hf1⟩:=fY hb1;have z1:=hb1.size;(try simp only[dW,dT,dX]at hc1 hf1 z1);have y1:w.heap.size<w1.heap.size:=dP;go_wp2_with fail;refine bu ?_;refine aW (S:=λ_=>True) dU bO (λhH=>?_);have SX:True:=bO;refine ey 0 ?_;refine ey 1 ?_;refine ey 2 ?_;refine ey 3 ?_;refine ey 4 ?_;refine ey 5 ?_;refine ey 6 ?_;refine fZ 7 ?_;intro K hK;go_simp;refine hK _ _ ⟨bO,?_⟩;refine iW ?_;refine fZ 8 ?_;intro K hK;go_simp;refine hK _ _ ⟨bO,?_⟩;refine iW ?_;refine bv dU ?_ _;refine ba ?_;go_wp2_with fail;refine(gj _ _ _ _).mono ?_;rw[D3.out];rintro e w2 ⟨rfl,rfl⟩;have y4:w.heap.size<w1.heap.size+1:=dP;obtain⟨r0,r1,r2⟩:=Blk.c3 (kR.next hb1);go_wp2_with fail;refine bM (v:=Me ⟨x,1,[]⟩) (by simp [results,results126,go_sem,r0,r1,r2,y1]) rfl ⟨rfl,?_⟩
 (repeat'(first|with_reducible assumption|with_reducible exact Below.refl _ _|with_reducible refine jR ?_|with_reducible refine gT ?_ ?_|with_reducible refine ie ?_ ?_|with_reducible refine gR ?_ dY ?_|((try simp only[dW,dT,dX]);omega)))
def js (st:Hp->Vec->Hp × Int) (s:Hp × List Int) (p:Vec):Hp × List Int:=((st s.1 p).1,s.2++[(st s.1 p).2])
abbrev noParts (v:Vec):Vec:={v with parts:=[]}
def fL:Nat->Hp->Vec->Hp × Int
 |0,h,_=>(h,0)
 |f+1,h,v=>gH (v.parts.foldl (js (fL f)) (h,[])).1 ⟨1,noParts v,(v.parts.foldl (js (fL f)) (h,[])).2⟩
def Ba (ok:Hp->Vec->Prop) (st:Hp->Vec->Hp × Int):Hp × List Int->List Vec->Prop
 |_,[]=>True
 |s,p::t=>ok s.1 p/\Ba ok st (js st s p) t
def rX:Nat->Hp->Vec->Prop
 |0,_,_=>False
 |f+1,h,v=>Ba (rX f) (fL f) (h,[]) v.parts/\((v.parts.foldl (js (fL f)) (h,[])).1.cells.length:Int)<=1073741824/\szD v.toD<=100000000000/\(v.parts.length:Int)<=1073741824
theorem qC {f:α->Vec->α} {l:List Vec} {a:α} {j:Nat} {y:Vec} (h:l[j]?=some y):(l.take (j+1)).foldl f a=f ((l.take j).foldl f a) y:=by rw[List.take_add_one,h,List.foldl_append];rfl
theorem vL {ok:Hp->Vec->Prop} {st:Hp->Vec->Hp × Int}:∀{l:List Vec} {s:Hp × List Int} {j:Nat} {y:Vec},Ba ok st s l->l[j]?=some y->ok ((l.take j).foldl (js st) s).1 y
 |[],_,_,_,_,h'=>by simp at h'
 |p::t,s,0,y,ho,h'=>by simp at h';subst h';rw[Ba]at ho;exact ho.1
 |p::t,s,j+1,y,ho,h'=>by simp at h';rw[Ba]at ho;rw[cG,bC];exact vL ho.2 h'
theorem tM:∀{l:List Cel} {i k:Nat},gy l i=some k->k<i+l.length
 |[],i,k,h=>by simp [gy]at h
 |c::t,i,k,h=>by
  rw[gy]at h;split at h
  ·injection h with h;simp;omega
  ·have:=tM h;simp;omega
theorem E6 {h:Hp} {c:Cel} (hl:(h.cells.length:Int)<=1073741824):(Lit.int .i64 (gH h c).2).wf=true:=by
 rw[kP];unfold gH;cases hf:gy h.cells 0 with
 |none=>simp only;omega
 |some k=>have:=tM hf;simp only;omega
def ab1 (fn:Nat) (f:Nat):Prop:=∀(h:Hp) (v:Vec) (g:Nat) (F:List Nat) (B:Nat) (cs:List Value) (w:World),HB w g h F->rep w B v.toD cs->B<=w.heap.size->(∀y∈g::F,B<=y)->rX f h v->
 Calls prog fn #[.pointer (some ⟨g,0,none⟩),.agg cs.toArray] w λe w'=>e= .returned (.int .i64 (fL f h v).2)/\(Lit.int .i64 (fL f h v).2).wf=true/\∃F',HB w' g (fL f h v).1 F'/\Sub w.heap.size F F'/\Mod (g::F) w w'
theorem air {p q a' b' c' d' e' f' h' i':Value} (k:Blk w g t [p,a',b',c',d',e',f',h',i',q]) (a b c d e f h i:Value):
 Blk ((((((((w.setCell ⟨g,1,none⟩ a).setCell ⟨g,2,none⟩ b).setCell ⟨g,3,none⟩ c).setCell ⟨g,4,none⟩ d).setCell ⟨g,5,none⟩ e).setCell ⟨g,6,none⟩ f).setCell ⟨g,7,none⟩ h).setCell ⟨g,8,none⟩ i) g t [p,a,b,c,d,e,f,h,i,q]/\Mod [g] w ((((((((w.setCell ⟨g,1,none⟩ a).setCell ⟨g,2,none⟩ b).setCell ⟨g,3,none⟩ c).setCell ⟨g,4,none⟩ d).setCell ⟨g,5,none⟩ e).setCell ⟨g,6,none⟩ f).setCell ⟨g,7,none⟩ h).setCell ⟨g,8,none⟩ i):=by
 have P:∀(w:World) (o:Nat) (u:Value),Mod [g] w (w.setCell ⟨g,o,none⟩ u):=λw o u=>Mod.poke (F:=[g]) (p:=⟨g,o,none⟩) dR u;exact⟨(((((((k.set_ 1 a).set_ 2 b).set_ 3 c).set_ 4 d).set_ 5 e).set_ 6 f).set_ 7 h).set_ 8 i,iV (iV (iV (iV (iV (iV (iV (P _ _ _) (P _ _ _) (λ_ h=>h)) (P _ _ _) (λ_ h=>h)) (P _ _ _) (λ_ h=>h)) (P _ _ _) (λ_ h=>h)) (P _ _ _) (λ_ h=>h)) (P _ _ _) (λ_ h=>h)) (P _ _ _) (λ_ h=>h)⟩
theorem nK:rep w B (.sl []) [()]:=by rw[rep];exact⟨none,0,0,0,[],rfl,af _,by unfold maxLen;omega,Reads.nil_,EO⟩
theorem PO (v:Vec):szD (noParts v).toD<=szD v.toD:=by rw[go,go];simp only[szD,gv,bL,bf];omega
def l_ (y:Int):Item:=⟨y,1,[]⟩
def nU (l:List Int):Vec:=⟨2,l.map l_,[],[],[],[],0,0⟩
theorem vt (l:List Int) (jb:∀y∈l,1<=y/\y<=40) (A:Option Addr) (n c:Nat) (w:World) (h:rep w w.heap.size (.sl (l.map (D.i .i64))) [.slice A n c]) (hn:(n:Int)<=40):Calls prog 43 #[.slice A n c] w (gM (nU l).toD 38 w):=by
 obtain⟨A',n',c',he,Nh,hnm,hr,-⟩:=(qy _ _ _ _).1 h;injection he with he;injection he with f1 f2 f3;subst f1 f2 f3
 have HL:=aa hr.len;have HA:=aa jb;clear jb;have O6:Below w.heap.size w ((w.alloc (.cells #[.int .i64 0,(),(),(),(),(),.int .i64 0,.int .i64 0] 38)).alloc (.cells #[.int .i64 2,(),(),(),(),(),.int .i64 0,.int .i64 0] 38)):=((Below.refl _ _).alloc (af _) _).alloc dR _;have kR0:Blk ((w.alloc (.cells #[.int .i64 0,(),(),(),(),(),.int .i64 0,.int .i64 0] 38)).alloc (.cells #[.int .i64 2,(),(),(),(),(),.int .i64 0,.int .i64 0] 38)) w.heap.size 38 [.int .i64 0,(),(),(),(),(),.int .i64 0,.int .i64 0]:=(Blk.new' (l:=[.int .i64 0,.slice none 0 0,.slice none 0 0,.slice none 0 0,.slice none 0 0,.slice none 0 0,.int .i64 0,.int .i64 0])).al;have k30:Blk ((w.alloc (.cells #[.int .i64 0,(),(),(),(),(),.int .i64 0,.int .i64 0] 38)).alloc (.cells #[.int .i64 2,(),(),(),(),(),.int .i64 0,.int .i64 0] 38)) (w.heap.size+1) 38 [.int .i64 2,(),(),(),(),(),.int .i64 0,.int .i64 0]:=Gs;go_enter func43,ntmps43;go_wp2_with fail;obtain⟨W,hW⟩:∃W,W=((w.alloc (.cells #[.int .i64 0,(),(),(),(),(),.int .i64 0,.int .i64 0] 38)).alloc (.cells #[.int .i64 2,(),(),(),(),(),.int .i64 0,.int .i64 0] 38)):=⟨_,rfl⟩;rw[<-hW]at O6 kR0 k30 ⊢;clear hW;go_loopw [13] (λi wr=>∃(j:Nat) (Aq:Option Addr) (cq:Nat) (Fq:List Nat),j<=n/\i= .int .i64 j/\Blk wr w.heap.size 38 [.int .i64 0,(),(),(),(),(),.int .i64 0,.int .i64 0]/\Blk wr (w.heap.size+1) 38 [.int .i64 2,.slice Aq j cq,(),(),(),(),.int .i64 0,.int .i64 0]/\own prog wr (.sl (((l.take j).map l_).map Item.toD)) 35 Fq [.slice Aq j cq]/\Fresh (w.heap.size+1+1) Fq/\Below w.heap.size w wr) (λi _=>n - (intOf i).toNat)
 case atStart=>exact⟨0,none,0,[],by omega,rfl,kR0,k30,kY underlying35,Fresh.nil,O6⟩
 case round=>
  clear kR0 k30 O6;obtain⟨j,Aq,cq,Fq,hj,rfl,kR,k3,oq,qL,bel⟩:=hrel;have hwr:w.heap.size+1<wr.heap.size:=k3.lt;by_cases hlj:j<n
  ·obtain⟨b,off,y,rfl,gD,hy,R9⟩:=hr.atI hlj;obtain⟨WF,Ya⟩:=HA.out y (aA hy);have HX:=aa hy;have hcy:=(bel.cell (p:=⟨b,off+j,none⟩) gD).trans R9;have j0:(0:Int)<=(j:Int):=dP;have j1:(j:Int)<(n:Int):=dP;clear hy;go_wp2_with fail;refine bu ?_;refine aW (S:=λV=>True) dU bO (λhH=>?_);replace kR:=kR.dw;replace k3:=k3.dw;replace oq:=gX oq;replace bel:=bel.drew;have abE:w.heap.size+1<wr.drew.heap.size:=hwr;have XH:wr.drew.cell? ⟨b,off+j,none⟩=some (.int .i64 y):=hcy;have SX:=(show True from bO);generalize wr.drew=v0 at kR k3 oq bel abE XH SX ⊢;have cv0:=k3.cell 1;simp only[ah,ag]at cv0;refine ey 0 ?_;refine ey 2 ?_;refine dG (rs:=[1,3]) dU dR (λi hi=>?_);simp only[aX,df,or_false]at hi;rcases hi with rfl|rfl;all_goals refine dD gO (λK hK=>?_)
   ·go_simp;refine hK _ _ ⟨SX,?_⟩;refine iW ?_;refine fZ 3 ?_;intro K hK;go_simp;go_at_call 111;refine(sK y WF Ya _).mono ?_;rintro e w3 ⟨rfl,lE⟩;have z3:=lE.size;have Yf:=kR.next lE;have CC:=k3.next lE;have ZY:=em oq lE;have x4:Below w3.heap.size w3 (w3.alloc (.cells #[.int .i64 y,.int .i64 1,sv []] 135)):=(Below.refl _ _).alloc (af _) _;have kn4:Blk (w3.alloc (.cells #[.int .i64 y,.int .i64 1,sv []] 135)) w3.heap.size 135 [.int .i64 y,.int .i64 1,sv []]:=Blk.new' (l:=[.int .i64 y,.int .i64 1,sv []]);have Jm:=CC.cell 1;simp only[ah,ag]at Jm;have Jn:=(CC.next x4).cell 1;simp only[ah,ag]at Jn;have KG:=ij bel lE;refine hK _ _ ⟨bO,?_⟩;refine iW ?_;refine fZ 4 ?_;intro K hK;go_simp;refine hK _ _ ⟨bO,?_⟩;refine iW ?_;refine fZ 5 ?_;intro K hK;refine gL (A:=Aq) (n:=j) (c:=cq) (b:=w3.heap.size) (m:=1) (xs:=((l.take j).map l_).map Item.toD) (F:=Fq) (d:=(l_ y).toD) (F':=[]) (te:=135) (cs:=[.int .i64 y,.int .i64 1,sv []]) kM ?_ ?_ (.tmp 18) (.tmp 21) ?_ ?_ ?_ ?_ ?_ ?_ ?_ ?_ ?_ ?_ ?_
    ·kernel_rfl
    ·rfl
    ·rfl
    ·rfl
    ·exact lz
    ·rfl
    ·exact kn4
    ·exact pI
    ·rfl
    ·exact lw
    ·exact g8
    ·omega
    intro gg gc w5 F5 o5 ap5 md5;simp only[dT]at ap5;have U8:=Blk.mod (g:=w.heap.size) (Yf.next x4) md5 (qL.notin dP);have vB:=Blk.mod (g:=w.heap.size+1) (CC.next x4) md5 (qL.notin dP);have z5:=md5.size;simp only[dT]at z5;have uW:=jN (ij KG x4) md5 (λy hy=>by have:=qL.2 y hy;omega) eA;have pU:=vB.cell 1;simp only[ah,ag]at pU;have Zr:=vB.frozen 1;have UL:w.heap.size+1<w5.heap.size:=vB.lt;refine hK _ _ ⟨bO,?_⟩;refine iW ?_;have SX2:=(show _ from bO);refine ey 6 ?_;refine fZ 7 ?_;intro K hK;go_simp;refine hK _ _ ⟨bO,?_⟩;refine iW ?_;refine bv dU ?_ _;refine ba ?_;clear Jm Jn pU;go_wp2_with fail;go_roundw
    case rel=>
     have Tt:∀y∈F5,y∈Fq\/w.heap.size+1+1<=y:=λy hy=>pF;have MU:∀y∈F5,w.heap.size+1+1<=y:=λy hy=>pG;refine⟨j+1,some ⟨gg,0,none⟩,gc,F5,by omega,by go_num,Blk.pk (p:=⟨w.heap.size+1,1,none⟩) iT U8,vB.set_ 1 _,?_,⟨ap5.1,MU⟩,uW.setCell kt _⟩;rw[eJ HX.out,aI,aI];exact ft o5 (λhm=>by have:=MU _ hm;simp at this;omega)
    case measure=>simp [intOf];omega
   ·
    go_simp;go_at_call 111;refine(sK y WF Ya _).mono ?_;rintro e w3 ⟨rfl,lE⟩;have z3:=lE.size;have Yf:=kR.next lE;have CC:=k3.next lE;have ZY:=em oq lE;have x4:Below w3.heap.size w3 (w3.alloc (.cells #[.int .i64 y,.int .i64 1,sv []] 135)):=(Below.refl _ _).alloc (af _) _;have kn4:Blk (w3.alloc (.cells #[.int .i64 y,.int .i64 1,sv []] 135)) w3.heap.size 135 [.int .i64 y,.int .i64 1,sv []]:=Blk.new' (l:=[.int .i64 y,.int .i64 1,sv []]);have Jm:=CC.cell 1;simp only[ah,ag]at Jm;have Jn:=(CC.next x4).cell 1;simp only[ah,ag]at Jn;have KG:=ij bel lE;refine hK _ _ ⟨bO,?_⟩;refine iW ?_;refine dG (rs:=[1,4]) dU dR (λi hi=>?_);simp only[aX,df,or_false]at hi;rcases hi with rfl|rfl;all_goals refine dD gO (λK hK=>?_)
    ·go_simp;refine hK _ _ ⟨bO,?_⟩;refine iW ?_;refine fZ 4 ?_;intro K hK;go_simp;refine hK _ _ ⟨bO,?_⟩;refine iW ?_;refine fZ 5 ?_;intro K hK;refine gL (A:=Aq) (n:=j) (c:=cq) (b:=w3.heap.size) (m:=1) (xs:=((l.take j).map l_).map Item.toD) (F:=Fq) (d:=(l_ y).toD) (F':=[]) (te:=135) (cs:=[.int .i64 y,.int .i64 1,sv []]) kM ?_ ?_ (.tmp 18) (.tmp 21) ?_ ?_ ?_ ?_ ?_ ?_ ?_ ?_ ?_ ?_ ?_
     ·kernel_rfl
     ·rfl
     ·rfl
     ·rfl
     ·exact lz
     ·rfl
     ·exact kn4
     ·exact pI
     ·rfl
     ·exact lw
     ·exact g8
     ·omega
     intro gg gc w5 F5 o5 ap5 md5;simp only[dT]at ap5;have U8:=Blk.mod (g:=w.heap.size) (Yf.next x4) md5 (qL.notin dP);have vB:=Blk.mod (g:=w.heap.size+1) (CC.next x4) md5 (qL.notin dP);have z5:=md5.size;simp only[dT]at z5;have uW:=jN (ij KG x4) md5 (λy hy=>by have:=qL.2 y hy;omega) eA;have pU:=vB.cell 1;simp only[ah,ag]at pU;have Zr:=vB.frozen 1;have UL:w.heap.size+1<w5.heap.size:=vB.lt;refine hK _ _ ⟨bO,?_⟩;refine iW ?_;have SX2:=(show _ from bO);refine ey 6 ?_;refine fZ 7 ?_;intro K hK;go_simp;refine hK _ _ ⟨bO,?_⟩;refine iW ?_;refine bv dU ?_ _;refine ba ?_;clear Jm Jn pU;go_wp2_with fail;go_roundw
     case rel=>
      have Tt:∀y∈F5,y∈Fq\/w.heap.size+1+1<=y:=λy hy=>pF;have MU:∀y∈F5,w.heap.size+1+1<=y:=λy hy=>pG;refine⟨j+1,some ⟨gg,0,none⟩,gc,F5,by omega,by go_num,Blk.pk (p:=⟨w.heap.size+1,1,none⟩) iT U8,vB.set_ 1 _,?_,⟨ap5.1,MU⟩,uW.setCell kt _⟩;rw[eJ HX.out,aI,aI];exact ft o5 (λhm=>by have:=MU _ hm;simp at this;omega)
     case measure=>simp [intOf];omega
    ·go_simp;refine hK _ _ ⟨bO,?_⟩;refine iW ?_;refine fZ 1 ?_;intro K hK;go_simp;refine hK _ _ ⟨bO,?_⟩;refine iW ?_;refine fZ 5 ?_;intro K hK;refine gL (A:=Aq) (n:=j) (c:=cq) (b:=w3.heap.size) (m:=1) (xs:=((l.take j).map l_).map Item.toD) (F:=Fq) (d:=(l_ y).toD) (F':=[]) (te:=135) (cs:=[.int .i64 y,.int .i64 1,sv []]) kM ?_ ?_ (.tmp 18) (.tmp 21) ?_ ?_ ?_ ?_ ?_ ?_ ?_ ?_ ?_ ?_ ?_
     ·kernel_rfl
     ·rfl
     ·rfl
     ·rfl
     ·exact lz
     ·rfl
     ·exact kn4
     ·exact pI
     ·rfl
     ·exact lw
     ·exact g8
     ·omega
     intro gg gc w5 F5 o5 ap5 md5;simp only[dT]at ap5;have U8:=Blk.mod (g:=w.heap.size) (Yf.next x4) md5 (qL.notin dP);have vB:=Blk.mod (g:=w.heap.size+1) (CC.next x4) md5 (qL.notin dP);have z5:=md5.size;simp only[dT]at z5;have uW:=jN (ij KG x4) md5 (λy hy=>by have:=qL.2 y hy;omega) eA;have pU:=vB.cell 1;simp only[ah,ag]at pU;have Zr:=vB.frozen 1;have UL:w.heap.size+1<w5.heap.size:=vB.lt;refine hK _ _ ⟨bO,?_⟩;refine iW ?_;have SX2:=(show _ from bO);refine ey 6 ?_;refine fZ 7 ?_;intro K hK;go_simp;refine hK _ _ ⟨bO,?_⟩;refine iW ?_;refine bv dU ?_ _;refine ba ?_;clear Jm Jn pU;go_wp2_with fail;go_roundw
     case rel=>
      have Tt:∀y∈F5,y∈Fq\/w.heap.size+1+1<=y:=λy hy=>pF;have MU:∀y∈F5,w.heap.size+1+1<=y:=λy hy=>pG;refine⟨j+1,some ⟨gg,0,none⟩,gc,F5,by omega,by go_num,Blk.pk (p:=⟨w.heap.size+1,1,none⟩) iT U8,vB.set_ 1 _,?_,⟨ap5.1,MU⟩,uW.setCell kt _⟩;rw[eJ HX.out,aI,aI];exact ft o5 (λhm=>by have:=MU _ hm;simp at this;omega)
     case measure=>simp [intOf];omega
  ·obtain rfl:j=n:=dP;rw[aC ws]at oq;obtain⟨a0,a1,a2,a3,a4,a5,a6,a7⟩:=k3.c8;obtain⟨r0,r1,r2,r3,r4,r5,r6,r7⟩:=kR.c8;have zr:=λi=>kR.frozen i;have Tq:=zr 0;have zr1:=zr 1;have zr2:=zr 2;have zr3:=zr 3;have zr4:=zr 4;have zr5:=zr 5;have zr6:=zr 6;have zr7:=zr 7;have XB:w.heap.size<wr.heap.size:=dP;clear zr;go_wp2_with fail;refine bM (v:= .agg #[.int .i64 2,.slice Aq j cq,(),(),(),(),.int .i64 0,.int .i64 0]) (by simp [results,results43,go_sem,r0,r1,r2,r3,r4,r5,r6,r7,XB]) rfl ⟨_,Fq++([]++([]++([]++([]++[])))),rfl,?_,?_,?_⟩
   ·exact Gz
   ·simpa using qL.mono dP
   ·exact mg
def gI (frm tk:Int) (x:Item):Item:=if eI x=true\/frm=tk\/tk=2 then x else if frm=2 then sN (qq x) else if x.num=1 then sN [84,82,85,69] else sN [70,65,76,83,69]
def qw (k:Int) (x:Item):Vec:=⟨k,[x],[],[],[],[],0,0⟩
def conv (v:Vec) (k:Int):Vec:=if k=4 then⟨4,[],v.parts++v.items.map (qw v.kind),v.names,[],[],0,0⟩ else⟨k,v.items.map (gI v.kind k),[],v.names,[],[],0,0⟩
def SU (w:Vec):Vec:=if w.levels=[] then⟨w.kind,w.items,[],[],[],[],0,0⟩ else⟨3,w.items.map (λx=>if eI x then x else sN (ZT w.levels (x.num - 1).toNat)),[],[],[],[],0,0⟩
def Eh (levels:List Str) (y:Item):Item:=if eI y=true\/ix levels y.text 0<0 then⟨0,0,[]⟩ else l_ (ix levels y.text 0+1)
def eY {α:Type} (l:List α) (n:Nat) (z:α):List α:=l++List.replicate (n - l.length) z
def gZ (v:Vec):Vec:=if lR v.names then {v with names:=[]} else v
def kG (v:Vec):Vec × Str:=if isVec v=true then (v,[]) else (zeroV,E_)
section
variable {w0 w:World} {X:List Nat} {R:List As}
theorem Mem.vec8 {r:Vec} {cs:List Value} (M:Mem prog w0 X w (.ow r.toD 38 cs::R)):∃a0 a1 a2 a3 a4 a5 a6 a7,cs=[a0,a1,a2,a3,a4,a5,a6,a7]:=by obtain⟨_,_,_,_,_,_,_,_,_,_,_,_,_,_,_,h,_⟩:=M.openVec;exact⟨_,_,_,_,_,_,_,_,h⟩
theorem Mem.vecL {rv:Vec} {cs:List Value} (M:Mem prog w0 X w (.ow rv.toD 38 cs::R)):∃(Ai:Option Addr) (ci:Nat) (Ap:Option Addr) (cp:Nat) (An:Option Addr) (cn:Nat) (Ac:Option Addr) (cc:Nat) (Al:Option Addr) (cl:Nat),cs=[.int .i64 rv.kind,.slice Ai rv.items.length ci,.slice Ap rv.parts.length cp,.slice An rv.names.length cn,.slice Ac rv.cls.length cc,.slice Al rv.levels.length cl,.int .i64 rv.code,.int .i64 rv.env]:=by obtain⟨Ai,ci,Ap,cp,An,cn,Ac,cc,Al,cl,h,_⟩:=d_ (M.rp 0 rfl);exact⟨Ai,ci,Ap,cp,An,cn,Ac,cc,Al,cl,h⟩
theorem Mem.newTwoL {rv:Vec} {y:Value} {w':World} {e:Ending} (M:Mem prog w0 X w R) (hn:eH rv.toD 38 y w e w'):∃(Ai:Option Addr) (ci:Nat) (Ap:Option Addr) (cp:Nat) (An:Option Addr) (cn:Nat) (Ac:Option Addr) (cc:Nat) (Al:Option Addr) (cl:Nat),
 e= .returned (.tuple #[.agg #[rv.kind,.slice Ai rv.items.length ci,.slice Ap rv.parts.length cp,.slice An rv.names.length cn,.slice Ac rv.cls.length cc,.slice Al rv.levels.length cl,rv.code,rv.env],y])/\
 Mem prog w0 X w' (.ow rv.toD 38 [rv.kind,.slice Ai rv.items.length ci,.slice Ap rv.parts.length cp,.slice An rv.names.length cn,.slice Ac rv.cls.length cc,.slice Al rv.levels.length cl,rv.code,rv.env]::R):=by
 obtain⟨cs,F,rfl,ho,hf,hb⟩:=hn;have M':=M.gain ho hf hb;obtain⟨Ai,ci,Ap,cp,An,cn,Ac,cc,Al,cl,rfl⟩:=M'.vecL;exact⟨Ai,ci,Ap,cp,An,cn,Ac,cc,Al,cl,rfl,M'⟩
theorem Mem.zeroVec (M:Mem prog w0 X w R):Mem prog w0 X w (.ow zeroV.toD 38 [.int .i64 0,(),(),(),(),(),.int .i64 0,.int .i64 0]::R):=
 Mem.joinVec (v:=zeroV) (((((M.nil (t:=25) underlying25).nil (t:=25) underlying25).nil (t:=25) underlying25).nil (t:=36) underlying36).nil (t:=35) underlying35) le le le
theorem Th {r:Vec} {cs:List Value} (M:Mem prog w0 X w (.ow r.toD 38 cs::R)):Calls prog 154 #[av cs] w λe w'=>∃a0 a1 a2 a3 a4 a5 a6 a7,e= .returned (.agg #[a0,a1,a2,a3,a4,a5,a6,a7])/\Mem prog w0 X w' (.ow (gZ r).toD 38 [a0,a1,a2,a3,a4,a5,a6,a7]::R):=by
 have hr:=M.rp 0 rfl;obtain⟨Ai,ni,ci,Ap,np,cp,An,nn,cn,Ac,nc,cc,Al,nl,cl,rfl,wk,-,-,-,-,-,wc,we⟩:=fw hr;refine(I7 r Ai ni ci Ap np cp An nn cn Ac nc cc Al nl cl w hr).mono ?_;rintro e w' ⟨rfl,hb⟩;have M1:=M.next hb;cases he:lR r.names with
 |false=>exact⟨_,_,_,_,_,_,_,_,by rw[aH dQ],by rw[show gZ r=r by unfold gZ;rw[he];rfl];exact M1⟩
 |true=>
  obtain⟨_,_,_,_,_,_,_,_,_,_,_,_,_,_,_,hc,M2⟩:=M1.openVec;simp only[bF,bG,dy,cO]at hc;obtain⟨⟨rfl,rfl,rfl⟩,⟨rfl,rfl,rfl⟩,⟨rfl,rfl,rfl⟩,⟨rfl,rfl,rfl⟩,rfl,rfl,rfl⟩:=hc;refine⟨_,_,_,_,_,_,_,_,by rw[aN rfl],?_⟩;rw[show gZ r={r with names:=[]} by unfold gZ;rw[he];rfl];have M3:=((M2.pull 2 rfl).drop).nil (t:=25) underlying25;have M4:=(M3.pull 2 rfl).pull 2 rfl;exact Mem.joinVec (v:={r with names:=[]}) M4 wk wc we
theorem RZ {r rv:Vec} {rs:Str} {cs:List Value} (M:Mem prog w0 X w (.ow r.toD 38 cs::R)) (ga:bigV r) (he:kG r=(rv,rs)):Calls prog 161 #[av cs] w λe w'=>∃a0 a1 a2 a3 a4 a5 a6 a7,e= .returned (.tuple #[.agg #[a0,a1,a2,a3,a4,a5,a6,a7],sv rs])/\Mem prog w0 X w' (.ow rv.toD 38 [a0,a1,a2,a3,a4,a5,a6,a7]::R):=by
 obtain⟨a0,a1,a2,a3,a4,a5,a6,a7,rfl⟩:=M.vec8;refine(Ue r _ w (M.rp 0 rfl) ga).mono ?_;rintro e w' ⟨rfl,hb⟩;unfold kG at he;cases hv:isVec r with
 |true=>
  rw[hv,aN rfl]at he;injection he with e1 e2;subst e1 e2
  exact⟨_,_,_,_,_,_,_,_,rfl,M.next hb⟩
 |false=>
  rw[hv,aH dQ]at he;injection he with e1 e2;subst e1 e2
  exact⟨_,_,_,_,_,_,_,_,rfl,(M.next hb).drop.zeroVec⟩
theorem PJ {r rv:Vec} {rs:Str} {cs:List Value} (M:Mem prog w0 X w (.ow r.toD 38 cs::R)) (ga:bigV r) (he:kG r=(rv,rs)):Calls prog 124 #[av cs] w λe w'=>∃a0 a1 a2 a3 a4 a5 a6 a7,e= .returned (.tuple #[.agg #[a0,a1,a2,a3,a4,a5,a6,a7],sv rs])/\Mem prog w0 X w' (.ow rv.toD 38 [a0,a1,a2,a3,a4,a5,a6,a7]::R):=by
 obtain⟨a0,a1,a2,a3,a4,a5,a6,a7,rfl⟩:=M.vec8;refine(SJ r _ w (M.rp 0 rfl) ga).mono ?_;rintro e w' ⟨rfl,hb⟩;unfold kG at he;cases hv:isVec r with
 |true=>
  rw[hv,aN rfl]at he;injection he with e1 e2;subst e1 e2
  exact⟨_,_,_,_,_,_,_,_,rfl,M.next hb⟩
 |false=>
  rw[hv,aH dQ]at he;injection he with e1 e2;subst e1 e2
  exact⟨_,_,_,_,_,_,_,_,rfl,(M.next hb).drop.zeroVec⟩
theorem v9 {r rv:Vec} {cs:List Value} (M:Mem prog w0 X w (.ow r.toD 38 cs::R)) (he:gZ r=rv):Calls prog 154 #[av cs] w λe w'=>∃(Ai:Option Addr) (ci:Nat) (Ap:Option Addr) (cp:Nat) (An:Option Addr) (cn:Nat) (Ac:Option Addr) (cc:Nat) (Al:Option Addr) (cl:Nat),e= .returned (.agg #[rv.kind,.slice Ai rv.items.length ci,.slice Ap rv.parts.length cp,.slice An rv.names.length cn,.slice Ac rv.cls.length cc,.slice Al rv.levels.length cl,rv.code,rv.env])/\Mem prog w0 X w' (.ow rv.toD 38 [rv.kind,.slice Ai rv.items.length ci,.slice Ap rv.parts.length cp,.slice An rv.names.length cn,.slice Ac rv.cls.length cc,.slice Al rv.levels.length cl,rv.code,rv.env]::R):=by refine(Th M).mono ?_;rintro e w' ⟨a0,a1,a2,a3,a4,a5,a6,a7,rfl,M'⟩;rw[he]at M';obtain⟨Ai,ci,Ap,cp,An,cn,Ac,cc,Al,cl,h⟩:=M'.vecL;rw[h]at M';simp only[bF,cO]at h;obtain⟨rfl,rfl,rfl,rfl,rfl,rfl,rfl,rfl⟩:=h;exact⟨Ai,ci,Ap,cp,An,cn,Ac,cc,Al,cl,rfl,M'⟩
theorem zA {r rv:Vec} {rs:Str} {cs:List Value} (M:Mem prog w0 X w (.ow r.toD 38 cs::R)) (ga:bigV r) (he:kG r=(rv,rs)):Calls prog 161 #[av cs] w λe w'=>∃(Ai:Option Addr) (ci:Nat) (Ap:Option Addr) (cp:Nat) (An:Option Addr) (cn:Nat) (Ac:Option Addr) (cc:Nat) (Al:Option Addr) (cl:Nat),e= .returned (.tuple #[.agg #[rv.kind,.slice Ai rv.items.length ci,.slice Ap rv.parts.length cp,.slice An rv.names.length cn,.slice Ac rv.cls.length cc,.slice Al rv.levels.length cl,rv.code,rv.env],sv rs])/\Mem prog w0 X w' (.ow rv.toD 38 [rv.kind,.slice Ai rv.items.length ci,.slice Ap rv.parts.length cp,.slice An rv.names.length cn,.slice Ac rv.cls.length cc,.slice Al rv.levels.length cl,rv.code,rv.env]::R):=by refine(RZ M ga he).mono ?_;rintro e w' ⟨a0,a1,a2,a3,a4,a5,a6,a7,rfl,M'⟩;obtain⟨Ai,ci,Ap,cp,An,cn,Ac,cc,Al,cl,h⟩:=M'.vecL;rw[h]at M';simp only[bF,cO]at h;obtain⟨rfl,rfl,rfl,rfl,rfl,rfl,rfl,rfl⟩:=h;exact⟨Ai,ci,Ap,cp,An,cn,Ac,cc,Al,cl,rfl,M'⟩
theorem wU {r rv:Vec} {rs:Str} {cs:List Value} (M:Mem prog w0 X w (.ow r.toD 38 cs::R)) (ga:bigV r) (he:kG r=(rv,rs)):Calls prog 124 #[av cs] w λe w'=>∃(Ai:Option Addr) (ci:Nat) (Ap:Option Addr) (cp:Nat) (An:Option Addr) (cn:Nat) (Ac:Option Addr) (cc:Nat) (Al:Option Addr) (cl:Nat),e= .returned (.tuple #[.agg #[rv.kind,.slice Ai rv.items.length ci,.slice Ap rv.parts.length cp,.slice An rv.names.length cn,.slice Ac rv.cls.length cc,.slice Al rv.levels.length cl,rv.code,rv.env],sv rs])/\Mem prog w0 X w' (.ow rv.toD 38 [rv.kind,.slice Ai rv.items.length ci,.slice Ap rv.parts.length cp,.slice An rv.names.length cn,.slice Ac rv.cls.length cc,.slice Al rv.levels.length cl,rv.code,rv.env]::R):=by refine(PJ M ga he).mono ?_;rintro e w' ⟨a0,a1,a2,a3,a4,a5,a6,a7,rfl,M'⟩;obtain⟨Ai,ci,Ap,cp,An,cn,Ac,cc,Al,cl,h⟩:=M'.vecL;rw[h]at M';simp only[bF,cO]at h;obtain⟨rfl,rfl,rfl,rfl,rfl,rfl,rfl,rfl⟩:=h;exact⟨Ai,ci,Ap,cp,An,cn,Ac,cc,Al,cl,rfl,M'⟩
end
section
variable {w0 w:World} {X:List Nat} {R:List As} {g n c k:Nat}
theorem Mem.itemAt {l:List Item} {x:Item} (M:Mem prog w0 X w (.ow (.sl (l.map Item.toD)) 35 [.slice (some ⟨g,0,none⟩) n c]::R)) (hk:l[k]?=some x):
 w.cell? ⟨g,k*3,none⟩=some (.int .i64 x.num)/\w.cell? ⟨g,k*3+1,none⟩=some (.int .i64 x.den)/\w.cell? ⟨g,k*3+2,none⟩=some (sv x.text):=by
 have hr:=M.rp 0 rfl;have hn:=(ef hr).1;rw[au]at hn;obtain⟨b,o,z,e,-,hz,-,c0,c1,c2⟩:=pK (k:=k) hr sa;injection e with e;injection e with e1 e2;subst e1 e2
 rw[hk]at hz;injection hz with hz;subst hz
 rw[bI]at c0 c1 c2;exact⟨c0,c1,c2⟩
theorem Mem.setItemG {l:List Item} {x y:Item} (M:Mem prog w0 X w (.ow (.sl (l.map Item.toD)) 35 [.slice (some ⟨g,0,none⟩) n c]::R)) (hk:l[k]?=some x) (hy:itOK y):
 (∃u,w.cell? ⟨g,k*3,none⟩=some u)/\(∃u,w.cell? ⟨g,k*3+1,none⟩=some u)/\(∃u,w.cell? ⟨g,k*3+2,none⟩=some u)/\(∀j,w.frozen? ⟨g,j,none⟩=false)/\g<w.heap.size/\
  Mem prog w0 X (((w.setCell ⟨g,k*3,none⟩ (.int .i64 y.num)).setCell ⟨g,k*3+1,none⟩ (.int .i64 y.den)).setCell ⟨g,k*3+2,none⟩ (sv y.text)) (.ow (.sl ((l.set k y).map Item.toD)) 35 [.slice (some ⟨g,0,none⟩) n c]::R):=by
 obtain⟨g',e,h⟩:=M.setItem hk hy;injection e with e;injection e with e;subst e
 exact h
theorem Mem.intAt {l:List Int} {x:Int} (M:Mem prog w0 X w (.ow (.sl (l.map (.i .i64))) 26 [.slice (some ⟨g,0,none⟩) n c]::R)) (hk:l[k]?=some x):w.cell? ⟨g,k,none⟩=some (.int .i64 x)/\g<w.heap.size:=by
 have hr:=M.rp 0 rfl;have hn:=(ef hr).1;rw[au]at hn;obtain⟨_,_,_,he,-,-,hR,-⟩:=(qy _ _ _ _).1 hr;injection he with he;injection he with e1 e2 e3;subst e1 e2 e3
 obtain⟨b,o,z,e,hb,hz,c0⟩:=hR.atI (k:=k) sa;injection e with e;injection e with e1 e2;subst e1 e2
 rw[hk]at hz;injection hz with hz;subst hz
 rw[bI]at c0;exact⟨c0,hb⟩
theorem Mem.setStrG {l:List Str} {x y:Str} (M:Mem prog w0 X w (.ow (.sl (l.map .s)) 25 [.slice (some ⟨g,0,none⟩) n c]::R)) (hk:l[k]?=some x) (hy:y.length<=maxLen):
 (∃u,w.cell? ⟨g,k,none⟩=some u)/\(∀j,w.frozen? ⟨g,j,none⟩=false)/\g<w.heap.size/\
  Mem prog w0 X (w.setCell ⟨g,k,none⟩ (sv y)) (.ow (.sl ((l.set k y).map .s)) 25 [.slice (some ⟨g,0,none⟩) n c]::R):=by
 obtain⟨g',e,h⟩:=M.setStr hk hy;injection e with e;injection e with e;subst e
 exact h
end
theorem jn {l:List α} {z:α}:eY l l.length z=l:=by simp [eY]
theorem pD {l:List α} {z:α} (h:l.length<=m):(eY l m z).length=m:=by simp [eY];omega
theorem iM {l:List α} {z:α} (h:l.length<=m):eY l (m+1) z=eY l m z++[z]:=by unfold eY;rw[show m+1 - l.length=(m - l.length)+1 by omega,List.replicate_succ',aS]
theorem pE {l:List α} {z:α} (h:m<=l.length):eY l m z=l:=by simp [eY,show m - l.length=0 by omega]
def gS (l:List Str) (m:Nat):List Str:=if l=[] then[] else eY l m []
theorem sQ (h:l=[]\/l.length=m):gS l m=l:=by
 unfold gS;rcases h with rfl|rfl
 ·simp
 ·rw[jn];split<;>simp_all
theorem wN (h:l=[]\/l.length<=m) (hp:0<(gS l m).length):gS l (m+1)=gS l m++[[]]:=by
 unfold gS at hp ⊢;by_cases e:l=[]
 ·simp [e]at hp
 ·rw[aH e,aH e,iM (h.resolve_left e)]
theorem wM (hp:(gS l m).length=0):gS l n=gS l m:=by
 unfold gS at hp ⊢;by_cases e:l=[]
 ·simp [e]
 ·rw[aH e]at hp;simp only[eY,aY]at hp;exact absurd (aR.1 dP) e
theorem rR (h:l=[]\/l.length=n) (hm:m<=40) (hn:n<=40:=by omega):(gS l m).length<=40:=by
 unfold gS;split
 ·simp
 ·rename_i jC
  have:=h.resolve_left jC;simp only[eY,aY,List.length_replicate];omega
theorem Mem.lit1 (M:Mem P w0 X w (.bk g e cs:: .ow d e cs::R)) (ht:P.underlying t=some (.slice e)) (hs:P.cellsOf e=cs.length):
 Mem P w0 X w (.ow (.sl [d]) t [.slice (some ⟨g,0,none⟩) 1 1]::R):=
 Mem.as (C:=[_,_]) (C':=[_]) M λF hF _=>by obtain⟨F1,_,rfl,⟨rfl,hb⟩,F2,_,rfl,h2,rfl⟩:=hF;refine iQ.2 ?_;show own P w (.sl [d]) t _ _;rw[own];refine⟨e,_,1,1,cs.length,[⟨cs,rfl⟩],F2,ht,hs,rfl,by decide,⟨rfl,by simp [Row.v],.inr ⟨g,1,cs.toArray,rfl,dj _,hb,af _,by decide,by simp,by simp [Row.v]⟩⟩,by simp [oz],?_⟩;rw[br,bL,iv];exact⟨F2,[],cs,[],by simp,rfl,h2,by rw[iv];exact⟨rfl,rfl⟩⟩
theorem Mem.open1 (M:Mem P w0 X w (.ow (.sl [d]) t [.slice (some ⟨g,0,none⟩) n c]::R)) (ht:P.underlying t=some (.slice e)):
 ∃cs post,Mem P w0 X w (.bk g e (cs++post):: .ow d e cs::R):=by
 obtain⟨F,h1,h2,h3⟩:=Mem.split [_] M;obtain⟨g',Fa,Fd,Fb,cs,pre,post,he,rfl,o1,o2,o3,-⟩:=ta (k:=0) ht (iQ.1 h1) rfl;injection he with he;injection he with he;subst he
 obtain rfl:pre=[]:=aR.1 (by simpa using o2);refine⟨cs,post,h3 w [_,_] (g::Fd) (fJ.2 ⟨[g],Fd,rfl,⟨rfl,o3⟩,iQ.2 o1⟩) ?_ (λx hx=> .inl wt) Mod.refl⟩;have q:=aQ.1 h2;simp only[aG,not_or]at q;exact aQ.2 ⟨q.1.2.1,(aE.1 (aE.1 q.2).2.1).1⟩
theorem Mem.setVecG {k:Nat} {l:List Vec} {x y:Vec} {a0 a1 a2 a3 a4 a5 a6 a7:Value} (M:Mem prog w0 X w (.ow (.sl (l.map Vec.toD)) 36 [.slice (some ⟨g,0,none⟩) n c]:: .ow y.toD 38 [a0,a1,a2,a3,a4,a5,a6,a7]::R)) (hk:l[k]?=some x):
 (∃u,w.cell? ⟨g,k*8,none⟩=some u)/\(∀j,j<8->∃u,w.cell? ⟨g,k*8+j,none⟩=some u)/\(∀j,w.frozen? ⟨g,j,none⟩=false)/\g<w.heap.size/\
  Mem prog w0 X ((((((((w.setCell ⟨g,k*8,none⟩ a0).setCell ⟨g,k*8+1,none⟩ a1).setCell ⟨g,k*8+2,none⟩ a2).setCell ⟨g,k*8+3,none⟩ a3).setCell ⟨g,k*8+4,none⟩ a4).setCell ⟨g,k*8+5,none⟩ a5).setCell ⟨g,k*8+6,none⟩ a6).setCell ⟨g,k*8+7,none⟩ a7) (.ow (.sl ((l.set k y).map Vec.toD)) 36 [.slice (some ⟨g,0,none⟩) n c]::R):=by
 obtain⟨g',e,-,h2,h3,h4,h5⟩:=M.setVec hk;injection e with e;injection e with e;subst e
 exact⟨h2 0 dQ,h2,h3,h4,h5⟩
theorem Mem.focus (C:List As) (M:Mem P w0 X w (C++R)):∃F,Mem P w F w C/\∀(w':World) (C':List As),Mem P w F w' C'->Mem P w0 X w' (C'++R):=by obtain⟨F,h1,h2,h3⟩:=Mem.split C M;refine⟨F,⟨Mod.refl,F,h1,h2,λg hg=> .inl hg⟩,λw' C' hm=>?_⟩;obtain⟨k1,G,k2,k3,k4⟩:=hm;exact h3 w' C' G k2 k3 k4 k1
structure FV (v:Vec):Prop where
 kind:0<=v.kind/\v.kind<=5
 len:v.items.length+v.parts.length<=40
 np:0<v.parts.length->v.kind=4
 ni:0<v.items.length->atomK v.kind=true
 names:∀x∈v.names,x.length<=60
 nn:v.names.length=0\/v.names.length=lenV v
 it:∀x∈v.items,itemOK v.kind x=true
 cls:v.cls.length<=3/\∀x∈v.cls,x.length<=60
 lev:v.levels.length<=20/\∀x∈v.levels,x.length<=60
 n5:v.kind=5->v.items.length=0/\v.parts.length=0/\v.names.length=0
theorem Yi {a l:List Str} (h:vE a l=true):∀x∈l,x.length<=60:=by
 induction l generalizing a with
 |nil=>simp
 |cons y t ih=>
  rw[vE]at h;simp only[ax,aL]at h;intro x hx;rcases aX.1 hx with rfl|hx
  ·exact h.1.1.2
  ·exact ih h.2 x hx
theorem Q0 (h:mF l m=true):l.length<=m/\∀x∈l,x.length<=60:=by simp only[mF,ax,aL]at h;exact⟨h.1,Yi h.2⟩
theorem FV.of (h:h_ v=true):FV v:=by
 simp only[h_,ax]at h;obtain⟨⟨⟨hA,hN⟩,hC⟩,hI⟩:=h;simp only[CO,ax,aL]at hA;obtain⟨⟨⟨k0,k5,hl⟩,hc⟩,kQ⟩:=hA;have hC2:IZ v.kind v.code v.env v.items.length v.parts.length v.names.length v.cls.length v.levels.length:=cD hC;obtain⟨c1,c2,c3,c4,c5⟩:=hC2;simp only[IY,ax,bX,aL,aV]at hN;rw[aV]at hI;have ad0:v.kind=5->v.parts.length=0:=λh5=>by
  rcases bz v.parts.length with h|h
  ·exact h
  ·have:=c2 h;omega
 have gK:v.items.length+v.parts.length<=40:=by
  by_cases h5:v.kind=5
  ·have:=c4 h5;have:=ad0 h5;omega
  ·rw[lenV,aH h5]at hl;exact hl
 have Uu:∀x∈v.items,atomK v.kind=true/\itemOK v.kind x=true:=λx hx=>by have:=hI x hx;simp only[wZ,SB,ax]at this;exact⟨this.1,this.2.1⟩
 refine⟨⟨k0,k5⟩,gK,c2,λh0=>?_,hN.2,?_,λx hx=>(Uu x hx).2,Q0 hc,Q0 kQ,λh5=>⟨(c4 h5).1,ad0 h5,(c4 h5).2.1⟩⟩
 ·exact(Uu _ (dA h0)).1
 ·rcases hN.1 with h|h
  ·exact .inl h
  ·exact .inr h.1
theorem jB {d:Nat} (h:okD d v=true):h_ v=true:=by cases d<;>(rw[okD]at h;simp only[ax]at h;exact h.1)
theorem JE (h1:1<=y) (h2:y<=40):nZ (l_ y)=true:=by unfold nZ l_;simp;omega
theorem DX (h1:1<=y) (h2:y<=40):isVec (nU [y])=true:=by
 have hi:=JE h1 h2;have hs:h_ (nU [y])=true:=by simp [h_,CO,IY,P6,wZ,SB,IZ,nU,lenV,mF,vE,atomK,itemOK,hi]
 unfold isVec;rw[show okD 3 (nU [y])=true by rw[okD,hs];rfl];simp [nU,jF,ik,lenV]
theorem Jh:bigV (nU [y]):=by unfold bigV;rw[go];simp [nU,szD,gv,l_,Item.toD]
theorem kV (h:rep w B (nU [y]).toD cs):∃(sb so c1:Nat) (A2:Option Addr) (c2:Nat) (A3:Option Addr) (c3:Nat) (A4:Option Addr) (c4:Nat) (A5:Option Addr) (c5:Nat),
 cs=[.int .i64 2,.slice (some ⟨sb,so,none⟩) 1 c1,.slice A2 0 c2,.slice A3 0 c3,.slice A4 0 c4,.slice A5 0 c5,.int .i64 0,.int .i64 0]/\sb<B/\w.cell? ⟨sb,so,none⟩=some (.int .i64 y)/\w.cell? ⟨sb,so+1,none⟩=some (.int .i64 1)/\w.cell? ⟨sb,so+2,none⟩=some (sv []):=by
 obtain⟨Ai,ci,Ap,cp,An,cn,Ac,cc,Al,cl,rfl,wk,ri,rp,rn,rc,rl,wc,we⟩:=d_ h;have ri:rep w B (.sl ([l_ y].map Item.toD)) [.slice Ai 1 ci]:=ri;obtain⟨b,o,x,rfl,hb,hx,-,e0,e1,e2⟩:=pK ri (k:=0) dQ;obtain rfl:l_ y=x:=oh;simp only[dx,cF]at e0 e1 e2;exact⟨b,o,ci,Ap,cp,An,cn,Ac,cc,Al,cl,rfl,hb,e0,e1,e2⟩
def jq (l:List Int) (p:Str) (w:World) (e:Ending) (w':World):Prop:=∃(A:Option Addr) (c:Nat) (F:List Nat),e= .returned (.tuple #[.slice A l.length c,sv p])/\own prog w' (.sl (l.map (D.i .i64))) 26 F [.slice A l.length c]/\Fresh w.heap.size F/\Below w.heap.size w w'
theorem Mem.newPos {w':World} {e:Ending} {l:List Int} (M:Mem prog w0 X w R) (hn:jq l p w e w'):∃(A:Option Addr) (c:Nat),e= .returned (.tuple #[.slice A l.length c,sv p])/\Mem prog w0 X w' (.ow (.sl (l.map (D.i .i64))) 26 [.slice A l.length c]::R):=by obtain⟨A,c,F,rfl,ho,hf,hb⟩:=hn;exact⟨A,c,rfl,M.gain ho hf hb⟩
theorem Mem.retPos {l:List Int} {A:Option Addr} (h:Mem prog w0 [] w (.ow (.sl (l.map (D.i .i64))) 26 [.slice A l.length c]::R)):jq l p w0 (.returned (.tuple #[.slice A l.length c,sv p])) w:=by obtain⟨F,h1,h2,h3⟩:=h.fin;exact⟨A,c,F,rfl,h1,h2,h3⟩
section
variable {w0 w:World} {X:List Nat} {R:List As} {f:Nat} {args:Array Value} {Ψ:Ending->World->Prop} {v:Vec} {y:Value}
theorem Ik {α:Type} {g:α->D} {l:List α} {t:TypeId} (h:Calls prog f args w (oK (l.map g) t w)) (M:Mem prog w0 X w R) (hK:∀(x:Gh) w',Mem prog w0 X w' (.ow (.sl (l.map g)) t [.slice x.a l.length x.c]::R)->Ψ (.returned (.slice x.a l.length x.c)) w'):Calls prog f args w Ψ:=
 h.mono λe w' hn=>by obtain⟨A',c',rfl,M'⟩:=M.newMap hn;exact hK (Ov A' c') w' M'
theorem Xe (h:Calls prog f args w (gM v.toD 38 w)) (M:Mem prog w0 X w R) (hK:∀(x:Gh) w',Mem prog w0 X w' (.ow (.sl (v.items.map Item.toD)) 35 [.slice (x.A 1) v.items.length (x.C 1)]:: .ow (.sl (v.parts.map Vec.toD)) 36 [.slice (x.A 2) v.parts.length (x.C 2)]:: .ow (.sl (v.names.map .s)) 25 [.slice (x.A 3) v.names.length (x.C 3)]:: .ow (.sl (v.cls.map .s)) 25 [.slice (x.A 4) v.cls.length (x.C 4)]:: .ow (.sl (v.levels.map .s)) 25 [.slice (x.A 5) v.levels.length (x.C 5)]::R)->Ψ (.returned (.agg #[v.kind,.slice (x.A 1) v.items.length (x.C 1),.slice (x.A 2) v.parts.length (x.C 2),.slice (x.A 3) v.names.length (x.C 3),.slice (x.A 4) v.cls.length (x.C 4),.slice (x.A 5) v.levels.length (x.C 5),v.code,v.env])) w'):Calls prog f args w Ψ:=
 h.mono λe w' hn=>by obtain⟨Ai,ci,Ap,cp,An,cn,Ac,cc,Al,cl,rfl,M'⟩:=M.newVec hn;exact hK (Ow [(none,0),(Ai,ci),(Ap,cp),(An,cn),(Ac,cc),(Al,cl)]) w' M'
theorem qS (h:Calls prog f args w (eH v.toD 38 y w)) (M:Mem prog w0 X w R) (hK:∀(x:Gh) w',Mem prog w0 X w' (.ow (.sl (v.items.map Item.toD)) 35 [.slice (x.A 1) v.items.length (x.C 1)]:: .ow (.sl (v.parts.map Vec.toD)) 36 [.slice (x.A 2) v.parts.length (x.C 2)]:: .ow (.sl (v.names.map .s)) 25 [.slice (x.A 3) v.names.length (x.C 3)]:: .ow (.sl (v.cls.map .s)) 25 [.slice (x.A 4) v.cls.length (x.C 4)]:: .ow (.sl (v.levels.map .s)) 25 [.slice (x.A 5) v.levels.length (x.C 5)]::R)->Ψ (.returned (.tuple #[.agg #[v.kind,.slice (x.A 1) v.items.length (x.C 1),.slice (x.A 2) v.parts.length (x.C 2),.slice (x.A 3) v.names.length (x.C 3),.slice (x.A 4) v.cls.length (x.C 4),.slice (x.A 5) v.levels.length (x.C 5),v.code,v.env],y])) w'):Calls prog f args w Ψ:=
 h.mono λe w' hn=>by obtain⟨Ai,ci,Ap,cp,An,cn,Ac,cc,Al,cl,rfl,M'⟩:=M.newVecTwo hn;exact hK (Ow [(none,0),(Ai,ci),(Ap,cp),(An,cn),(Ac,cc),(Al,cl)]) w' M'
theorem tI (h:Calls prog f args w (gM v.toD 38 w)) (M:Mem prog w0 X w R) (hK:∀(x:Gh) w',Mem prog w0 X w' (.ow v.toD 38 [v.kind,.slice (x.A 1) v.items.length (x.C 1),.slice (x.A 2) v.parts.length (x.C 2),.slice (x.A 3) v.names.length (x.C 3),.slice (x.A 4) v.cls.length (x.C 4),.slice (x.A 5) v.levels.length (x.C 5),v.code,v.env]::R)->Ψ (.returned (.agg #[v.kind,.slice (x.A 1) v.items.length (x.C 1),.slice (x.A 2) v.parts.length (x.C 2),.slice (x.A 3) v.names.length (x.C 3),.slice (x.A 4) v.cls.length (x.C 4),.slice (x.A 5) v.levels.length (x.C 5),v.code,v.env])) w'):Calls prog f args w Ψ:=
 h.mono λe w' hn=>by obtain⟨cs,rfl,M'⟩:=M.newSt hn;obtain⟨Ai,ci,Ap,cp,An,cn,Ac,cc,Al,cl,rfl⟩:=M'.vecL;exact hK (Ow [(none,0),(Ai,ci),(Ap,cp),(An,cn),(Ac,cc),(Al,cl)]) w' M'
theorem AH (h:Calls prog f args w (eH v.toD 38 y w)) (M:Mem prog w0 X w R) (hK:∀(x:Gh) w',Mem prog w0 X w' (.ow v.toD 38 [v.kind,.slice (x.A 1) v.items.length (x.C 1),.slice (x.A 2) v.parts.length (x.C 2),.slice (x.A 3) v.names.length (x.C 3),.slice (x.A 4) v.cls.length (x.C 4),.slice (x.A 5) v.levels.length (x.C 5),v.code,v.env]::R)->Ψ (.returned (.tuple #[.agg #[v.kind,.slice (x.A 1) v.items.length (x.C 1),.slice (x.A 2) v.parts.length (x.C 2),.slice (x.A 3) v.names.length (x.C 3),.slice (x.A 4) v.cls.length (x.C 4),.slice (x.A 5) v.levels.length (x.C 5),v.code,v.env],y])) w'):Calls prog f args w Ψ:=
 h.mono λe w' hn=>by obtain⟨Ai,ci,Ap,cp,An,cn,Ac,cc,Al,cl,rfl,M'⟩:=M.newTwoL hn;exact hK (Ow [(none,0),(Ai,ci),(Ap,cp),(An,cn),(Ac,cc),(Al,cl)]) w' M'
theorem Mw {l:List Int} {p:Str} (h:Calls prog f args w (jq l p w)) (M:Mem prog w0 X w R) (hK:∀(x:Gh) w',Mem prog w0 X w' (.ow (.sl (l.map (.i .i64))) 26 [.slice x.a l.length x.c]::R)->Ψ (.returned (.tuple #[.slice x.a l.length x.c,sv p])) w'):Calls prog f args w Ψ:=
 h.mono λe w' hn=>by obtain⟨A',c',rfl,M'⟩:=M.newPos hn;exact hK (Ov A' c') w' M'
theorem Wt (h:Calls prog f args w λe w'=>∃(Ai:Option Addr) (ci:Nat) (Ap:Option Addr) (cp:Nat) (An:Option Addr) (cn:Nat) (Ac:Option Addr) (cc:Nat) (Al:Option Addr) (cl:Nat),e= .returned (.agg #[v.kind,.slice Ai v.items.length ci,.slice Ap v.parts.length cp,.slice An v.names.length cn,.slice Ac v.cls.length cc,.slice Al v.levels.length cl,v.code,v.env])/\Mem prog w0 X w' (.ow v.toD 38 [v.kind,.slice Ai v.items.length ci,.slice Ap v.parts.length cp,.slice An v.names.length cn,.slice Ac v.cls.length cc,.slice Al v.levels.length cl,v.code,v.env]::R)) (hK:∀(x:Gh) w',Mem prog w0 X w' (.ow v.toD 38 [v.kind,.slice (x.A 1) v.items.length (x.C 1),.slice (x.A 2) v.parts.length (x.C 2),.slice (x.A 3) v.names.length (x.C 3),.slice (x.A 4) v.cls.length (x.C 4),.slice (x.A 5) v.levels.length (x.C 5),v.code,v.env]::R)->Ψ (.returned (.agg #[v.kind,.slice (x.A 1) v.items.length (x.C 1),.slice (x.A 2) v.parts.length (x.C 2),.slice (x.A 3) v.names.length (x.C 3),.slice (x.A 4) v.cls.length (x.C 4),.slice (x.A 5) v.levels.length (x.C 5),v.code,v.env])) w'):Calls prog f args w Ψ:=
 h.mono λe w' hn=>by obtain⟨Ai,ci,Ap,cp,An,cn,Ac,cc,Al,cl,rfl,M'⟩:=hn;exact hK (Ow [(none,0),(Ai,ci),(Ap,cp),(An,cn),(Ac,cc),(Al,cl)]) w' M'
theorem Mv (h:Calls prog f args w λe w'=>∃(Ai:Option Addr) (ci:Nat) (Ap:Option Addr) (cp:Nat) (An:Option Addr) (cn:Nat) (Ac:Option Addr) (cc:Nat) (Al:Option Addr) (cl:Nat),e= .returned (.tuple #[.agg #[v.kind,.slice Ai v.items.length ci,.slice Ap v.parts.length cp,.slice An v.names.length cn,.slice Ac v.cls.length cc,.slice Al v.levels.length cl,v.code,v.env],y])/\Mem prog w0 X w' (.ow v.toD 38 [v.kind,.slice Ai v.items.length ci,.slice Ap v.parts.length cp,.slice An v.names.length cn,.slice Ac v.cls.length cc,.slice Al v.levels.length cl,v.code,v.env]::R)) (hK:∀(x:Gh) w',Mem prog w0 X w' (.ow v.toD 38 [v.kind,.slice (x.A 1) v.items.length (x.C 1),.slice (x.A 2) v.parts.length (x.C 2),.slice (x.A 3) v.names.length (x.C 3),.slice (x.A 4) v.cls.length (x.C 4),.slice (x.A 5) v.levels.length (x.C 5),v.code,v.env]::R)->Ψ (.returned (.tuple #[.agg #[v.kind,.slice (x.A 1) v.items.length (x.C 1),.slice (x.A 2) v.parts.length (x.C 2),.slice (x.A 3) v.names.length (x.C 3),.slice (x.A 4) v.cls.length (x.C 4),.slice (x.A 5) v.levels.length (x.C 5),v.code,v.env],y])) w'):Calls prog f args w Ψ:=
 h.mono λe w' hn=>by obtain⟨Ai,ci,Ap,cp,An,cn,Ac,cc,Al,cl,rfl,M'⟩:=hn;exact hK (Ow [(none,0),(Ai,ci),(Ap,cp),(An,cn),(Ac,cc),(Al,cl)]) w' M'
end
theorem Ew:∀{d:Nat} {v:Vec},okD d v=true->okD (d+1) v=true
 |0,v,h=>by rw[s8,ax]at h ⊢;refine⟨h.1,?_⟩;have:=h.2;simp only[PR,dh]at this;simp [PR,this]
 |d+1,v,h=>by rw[s8,ax]at h ⊢;refine⟨h.1,?_⟩;have h2:=h.2;simp only[PR,aV]at h2 ⊢;exact λy hy=>Ew (h2 y hy)
theorem n7 {d:Nat} (h:okD d v=true):(∀y∈v.parts,∃d',d=d'+1/\okD d' y=true)/\v.parts.length<=40:=by
 rw[s8]at h;simp only[ax]at h;obtain⟨⟨⟨⟨hA,_⟩,hC⟩,_⟩,hL⟩:=h;refine⟨λy hy=>?_,?_⟩
 ·cases d with
  |zero=>simp only[PR,dh]at hL;rw[hL]at hy;simp at hy
  |succ d=>simp only[PR,aV]at hL;exact⟨d,rfl,hL y hy⟩
 ·simp only[CO,ax,aL]at hA;simp only[P6,aL]at hC;have h40:=hA.1.1.2.2;unfold lenV at h40;split at h40
  ·rename_i h5
   unfold IZ at hC;have:v.parts.length=0:=dP;omega
  ·omega
def lcP (v:Vec):Prop:=∀(cs:List Value) (w:World),okD 3 v=true->szD v.toD<=500000000000->rep w w.heap.size v.toD cs->Calls prog 56 #[av cs] w (gM v.toD 38 w)
theorem BF (l:List Vec) (ih:∀y∈l,lcP y) (jV:∀y∈l,okD 3 y=true/\szD y.toD<=500000000000) (h40:l.length<=40) (A:Option Addr) (n c:Nat) (w:World) (h:rep w w.heap.size (.sl (l.map Vec.toD)) [.slice A n c]):
 Calls prog 127 #[.slice A n c] w (oK (l.map Vec.toD) 36 w):=by
 obtain⟨kO,hlc,sT⟩:=ef h;rw[au]at kO;have hn:n<=40:=dP;have HL:=aa kO;have HI:=aa ih;have HK:=aa jV;have x0:Below w.heap.size w (w.alloc (.cells #[] 38)):=(Below.refl _ _).alloc (af _) _;clear kO ih jV h40;go_enter func127,ntmps127;go_wp2_with fail;go_loopw [3,4] (λo i wr=>∃(j:Nat) (A':Option Addr) (c':Nat) (Fo:List Nat),j<=n/\i= .int .i64 j/\o= .slice A' j c'/\own prog wr (.sl ((l.take j).map Vec.toD)) 36 Fo [.slice A' j c']/\Fresh w.heap.size Fo/\Below w.heap.size w wr) (λ_ i _=>n - (intOf i).toNat)
 case atStart=>exact⟨0,some ⟨w.heap.size,0,none⟩,0,[w.heap.size],by omega,rfl,rfl,rW underlying36,⟨by simp,by simp⟩,x0⟩
 case round=>
  obtain⟨j,A',c',Fo,hj,rfl,rfl,oo,fro,bel⟩:=hrel;by_cases hlt:j<n
  ·obtain⟨b,off,x,Ei,ui,vi,Ep,up,vp,En,un,vn,Ec,uc,vc,El,ul,vl,rfl,gD,hx,fE,e0,e1,e2,e3,e4,e5,e6,e7⟩:=my (fF h bel) hlt;have hm:=aA hx;have WB:=HK.out x hm;have HX:=aa hx;have HCP:=aa (HI.out x hm);have HOX:=aa WB.1;have ahV:=WB.2;have loo:=gC oo;have zr:=bel.size;have uK:b<wr.heap.size:=dP;have j40:(j:Int)<=40:=dP;have j41:(j:Int)<(n:Int):=dP;have j0:(0:Int)<=(j:Int):=dP;clear hx hm WB;go_wp2_with fail;refine(Ny 3 dP x _ _ (gY fE zr) (by unfold bigV;omega)).mono ?_;rw[HOX.out];rintro e w1 ⟨rfl,hb1⟩;have c0:=(hb1.cell (p:=⟨b,off+j*8,none⟩) uK).trans e0;have c1:=(hb1.cell (p:=⟨b,off+j*8+1,none⟩) uK).trans e1;have c2:=(hb1.cell (p:=⟨b,off+j*8+2,none⟩) uK).trans e2;have c3:=(hb1.cell (p:=⟨b,off+j*8+3,none⟩) uK).trans e3;have c4:=(hb1.cell (p:=⟨b,off+j*8+4,none⟩) uK).trans e4;have c5:=(hb1.cell (p:=⟨b,off+j*8+5,none⟩) uK).trans e5;have c6:=(hb1.cell (p:=⟨b,off+j*8+6,none⟩) uK).trans e6;have c7:=(hb1.cell (p:=⟨b,off+j*8+7,none⟩) uK).trans e7;have ago:=ij bel hb1;have z1:=hb1.size;have WE:=fM (gY fE zr) hb1;replace oo:=em oo hb1;clear e0 e1 e2 e3 e4 e5 e6 e7;go_wp2_with (first
    |(go_at_call 56;refine(HCP.out _ w1 HOX.out ahV WE).mono ?_;rintro e w2 ⟨cs2,G2,rfl,o2,fr2,jS⟩;obtain⟨Bi,mi,di,Bp,mp,dp,Bn,mn,dn,Bc,mc,dc,Bl,ml,dl,rfl,-⟩:=fw (eW _ _ _ _ o2);have z2:=jS.size;have x2:Below w2.heap.size w2 (w2.alloc (.cells #[x.kind,.slice Bi mi di,.slice Bp mp dp,.slice Bn mn dn,.slice Bc mc dc,.slice Bl ml dl,x.code,x.env] 38)):=(Below.refl _ _).alloc (af _) _;have kn2:Blk (w2.alloc (.cells #[x.kind,.slice Bi mi di,.slice Bp mp dp,.slice Bn mn dn,.slice Bc mc dc,.slice Bl ml dl,x.code,x.env] 38)) w2.heap.size 38 [x.kind,.slice Bi mi di,.slice Bp mp dp,.slice Bn mn dn,.slice Bc mc dc,.slice Bl ml dl,x.code,x.env]:=Blk.new' (l:=[.int .i64 x.kind,.slice Bi mi di,.slice Bp mp dp,.slice Bn mn dn,.slice Bc mc dc,.slice Bl ml dl,.int .i64 x.code,.int .i64 x.env]))
    |(at_builtin;refine n8 (xs:=(l.take j).map Vec.toD) (F:=Fo) (d:=x.toD) (F':=G2) (b:=w2.heap.size) (m:=1) (te:=38) (cs:=[.int .i64 x.kind,.slice Bi mi di,.slice Bp mp dp,.slice Bn mn dn,.slice Bc mc dc,.slice Bl ml dl,.int .i64 x.code,.int .i64 x.env]) jM dU rfl _ _ rfl rfl (em (em oo jS) x2) rfl kn2 (em o2 x2) rfl ?_ eb dP ?_;(exact aE.2 ⟨fro.1,fr2.1,λa ha b hb e=>by have h1:=loo a ha;have h2:=fr2.2 b hb;omega⟩);intro gg gc w3 F3 o3 ap3 md3))
   have z3:=md3.size;simp only[dT]at z3 ap3;go_roundw
   case rel=>
    refine⟨j+1,some ⟨gg,0,none⟩,gc,F3,by omega,by go_num,rfl,?_,⟨ap3.1,λy hy=>?_⟩,?_⟩
    ·rw[eJ HX.out,aI];exact o3
    ·rcases ap3.2 y hy with h1|h1|h1
     ·exact fro.2 y h1
     ·have:=fr2.2 y h1;omega
     ·omega
    ·exact jN (ij ago (ij jS x2)) md3 (λy hy=>fro.2 y hy) eA
   case measure=>simp [intOf];omega
  ·obtain rfl:j=n:=dP;rw[aC ws]at oo;go_wp2_with fail;go_ret;exact⟨A',j,c',Fo,rfl,oo,fro,bel⟩
theorem nT (v:Vec):lcP v:=by
 refine iH (P:=lcP) (λv ih=>?_) v;intro cs w jV kD h;have hp:=n7 jV;have ga:bigV v:=by unfold bigV;omega
 have xy:∀y∈v.parts,okD 3 y=true/\szD y.toD<=500000000000:=λy hy=>by obtain⟨d',hd,Ya⟩:=hp.1 y hy;obtain rfl:d'=2:=dP;refine⟨Ew Ya,?_⟩;have h1:=go v;have h2:∀(l:List Vec),y∈l->szD y.toD<=gv (l.map Vec.toD):=Gg;have h3:=h2 v.parts hy;rw[h1]at kD;simp only[szD]at kD;omega
 have adO:=JN v v.parts (λA n c w hr=>BF v.parts ih xy hp.2 A n c w hr) cs w h kD;have e:(⟨v.kind,v.items,v.parts,v.names,v.cls,v.levels,v.code,v.env⟩:Vec)=v:=by cases v;rfl
 rw[e]at adO;exact adO
def incS (h:Hp) (p:Int):Hp:=eG h p.toNat (gE (celD h p))
def incOK (h:Hp) (p:Int):Prop:=inR h p=true/\Xd (celD h p).count
def ownH (h:Hp) (s:Str):Hp × Int:=gH ((celD h (slotD h s)).parts.foldl incS h) ⟨1,(celD h (slotD h s)).value,(celD h (slotD h s)).parts⟩
def iz (h:Hp) (s:Str):Hp × Int:=if (celD h (slotD h s)).count=1 then (h,slotD h s) else ({fd (ownH h s).1 s (ownH h s).2 with copies:=wrap64 (h.copies+1)},(ownH h s).2)
theorem qd (h:Hp) (c:Cel):(gH h c).1.names=h.names/\(gH h c).1.slots=h.slots/\(gH h c).1.copies=h.copies:=by unfold gH;cases gy h.cells 0<;>exact⟨rfl,rfl,rfl⟩
theorem nX {f:Hp->Int->Hp} (hf:∀h p,(f h p).names=h.names/\(f h p).slots=h.slots/\(f h p).copies=h.copies):∀(l:List Int) (h:Hp),(l.foldl f h).names=h.names/\(l.foldl f h).slots=h.slots/\(l.foldl f h).copies=h.copies
 |[],h=>⟨rfl,rfl,rfl⟩
 |p::t,h=>by rw[bC];have h1:=nX hf t (f h p);have h2:=hf h p;exact⟨h1.1.trans h2.1,h1.2.1.trans h2.2.1,h1.2.2.trans h2.2.2⟩
theorem tX (h:Hp) (p:Int):(incS h p).names=h.names/\(incS h p).slots=h.slots/\(incS h p).copies=h.copies:=⟨rfl,rfl,rfl⟩
theorem ug:∀(f:Nat) (h:Hp) (k:Int),(iD f h k).names=h.names/\(iD f h k).slots=h.slots/\(iD f h k).copies=h.copies
 |0,h,k=>⟨rfl,rfl,rfl⟩
 |f+1,h,k=>by
  rw[iD];split
  ·exact⟨rfl,rfl,rfl⟩
  ·exact nX (ug f) _ _
theorem KH (h:Hp) (s:Str) (k:Int):(fd h s k).copies=h.copies:=by
 unfold fd;split
 ·exact(ug _ _ _).2.2
 ·rfl
theorem Bo (h:Hp) (c k:Int):celD {h with copies:=c} k=celD h k:=rfl
theorem zB {f:Hp->Int->Hp} {c:Int} (hf:∀h p,f {h with copies:=c} p={f h p with copies:=c}):∀(l:List Int) (h:Hp),l.foldl f {h with copies:=c}={l.foldl f h with copies:=c}
 |[],h=>rfl
 |p::t,h=>by rw[bC,hf,zB hf t,bC]
theorem vM (c:Int):∀(f:Nat) (h:Hp) (k:Int),iD f {h with copies:=c} k={iD f h k with copies:=c}
 |0,h,k=>rfl
 |f+1,h,k=>by
  rw[iD,iD,Bo];split
  ·rfl
  ·exact zB (vM c f) _ (eG h k.toNat lf)
theorem RJ (h:Hp) (s:Str) (k c:Int):fd {h with copies:=c} s k={fd h s k with copies:=c}:=by
 unfold fd;split
 ·exact vM c 5 {h with slots:=h.slots.set (ix h.names s 0).toNat k} (slotD h s)
 ·rfl
structure OwnOK (h:Hp) (s:Str):Prop where
 len:h.names.length=h.slots.length
 nm:(h.names.length:Int)<=1073741824
 has:hasN h s=true
 inr:inR h (slotD h s)=true
 more:(celD h (slotD h s)).count=1\/((celD h (slotD h s)).value.parts=[]/\szD (celD h (slotD h s)).value.toD<=500000000000/\((celD h (slotD h s)).parts.length:Int)<=1073741824/\allOK incOK incS h (celD h (slotD h s)).parts/\
  (((celD h (slotD h s)).parts.foldl incS h).cells.length:Int)<=1073741824/\relOK 5 {(ownH h s).1 with slots:=(ownH h s).1.slots.set (ix (ownH h s).1.names s 0).toNat (ownH h s).2} (slotD (ownH h s).1 s))
theorem Aa (c:Int):∀(f:Nat) (h:Hp) (k:Int),relOK f {h with copies:=c} k↔relOK f h k
 |0,h,k=>Iff.rfl
 |f+1,h,k=>by
  have iU:∀(l:List Int) (h:Hp),allOK (relOK f) (iD f) {h with copies:=c} l↔allOK (relOK f) (iD f) h l:=by
   intro l
   induction l with
   |nil=>intro h;exact Iff.rfl
   |cons p t ih=>intro h;rw[allOK,allOK,vM,ih,Aa c f h p]
  rw[relOK,relOK,Bo];have:=iU (celD h k).parts (eG h k.toNat lf);exact and_congr Iff.rfl (and_congr Iff.rfl (or_congr Iff.rfl this))
theorem Mu:(prog.info? 4).map (λi=>(i.zero,i.size,i.bytes))=some (some (.bool false),1,1):=dU
theorem AX (n:Nat) (hn:(n:Int)<=40) (y:Int) (h1:1<=y) (h2:y<=40) (ab ao c:Nat) (w:World) (K7:ab<w.heap.size) (e0:w.cell? ⟨ab,ao,none⟩=some (.int .i64 y)) (e1:w.cell? ⟨ab,ao+1,none⟩=some (.int .i64 1)) (e2:w.cell? ⟨ab,ao+2,none⟩=some (sv [])):
 Calls prog 182 #[.int .i64 (n:Nat),.slice (some ⟨ab,ao,none⟩) 1 c] w λe w'=>∃A m d,e= .returned (.tuple #[.slice A m d,sv []])/\∃F,own prog w' (.sl [D.i .i64 y]) 26 F [.slice A m d]/\Fresh w.heap.size F/\Below w.heap.size w w':=by
 obtain⟨i0,DI,rJ,tW,hz2⟩:=cZ Mu;have xx:=λW=>iw (P:=prog) 163 4 i0 _ underlying163 DI rJ .i64 .i64 (n+1) (n+1) (af _) jj dP W
 push_cast at xx
 have hwy:(Lit.int .i64 y).wf=true:=kP.2 fP;have q1:decide (y< -40)=false:=dS;have q2:decide (40<y)=false:=dS;have q3:decide (0<y)=true:=dS;have HMS:=aa (show eI ⟨y,1,[]⟩=false by simp [eI]);have M:Mem prog w [] w []:=Mem.start;go_enter func182,ntmps182;refine Ra M [] ?_;refine Ra M [] ?_;refine Ra M [] (Sq ?_);refine Sb M [] 2 ?_;refine Sx M 0 (λx=> .slice (some ⟨x.b,0,none⟩) (n+1) (n+1)) (λx=>[.bk (x.b) 4 (madeCells #[.bool false] (n+1)).toList]) (λK Z hK=>by go_simp;exact hK (mA w.heap.size) _ M.al) (λJ1 wv M=>?_)
 refine Sb M [] 1 (Sz (ae ?_));refine Ra M [] (aJ ?_);refine aZ 2 ?_;refine ez (Ra M [] (ae ?_));refine Hx (ae (aJ (Sq ?_)));refine Sb M [] 1 ?_;refine Sf (show wv.cell? ⟨ab,ao,none⟩=some (.int .i64 y)/\wv.cell? ⟨ab,ao+1,none⟩=some (.int .i64 1)/\wv.cell? ⟨ab,ao+2,none⟩=some (sv []) from⟨(M.bel.cell K7).trans e0,(M.bel.cell K7).trans e1,(M.bel.cell K7).trans e2⟩) ?_;refine Sa M (λJ2 wv M=>?_);refine Ss M 0 (λwv M=>Sz (ae (Sq ?_)));refine Sb M [0] 1 ?_;refine Sc (aF (kJ ⟨y,1,[]⟩ _) ?_);rintro e w' ⟨rfl,hb⟩;rw[HMS.out];replace M:=M.next hb;refine Sp (Sz ?_);refine gk (ae ?_);refine Ra M [0] ?_;refine gk (ae ?_);refine Ra M [0] ?_;refine gk (aJ ?_);refine Ra M [0] ?_;refine ct ?_;refine Ra M [] (Sg ?_);refine Sb M [0] 3 ?_;refine Sa M (λJ4 wv M=>?_);have M:=(M.int (t:=3) hwy).nil (t:=26) underlying26;refine nQ M rD (hn:=by decide) (h63:=by decide) (λJ5 wv M=>Sw ?_);replace M:=(M.pull 1 rfl |>.pull 1 rfl);replace M:=M.up [];refine Sb M [] 1 (Sy (fA (fA (dV ?_))));refine Rb M [] (dV (ez ?_));refine Ra M [] (ae ?_);refine cf (bo (es (es (fT (dV (ae ?_))))));refine Ra M [] ?_;refine ct ?_;refine Ra M [] (aO (fI ?_));refine vQ results182 ?_;exact⟨_,_,_,rfl,(M.sel [0] dQ).fin⟩
theorem RG (h:eI x=true\/frm=tk\/tk=2):gI frm tk x=x:=by unfold gI;rw[aN h]
theorem TX (h:¬(eI x=true\/frm=tk\/tk=2)) (h2:frm=2):gI frm tk x=sN (qq x):=by unfold gI;rw[aH h,aN h2]
theorem RH (h:¬(eI x=true\/frm=tk\/tk=2)) (h2:¬frm=2) (h3:x.num=1):gI frm tk x=sN [84,82,85,69]:=by unfold gI;rw[aH h,aH h2,aN h3]
theorem O3 (h:¬(eI x=true\/frm=tk\/tk=2)) (h2:¬frm=2) (h3:¬x.num=1):gI frm tk x=sN [70,65,76,83,69]:=by unfold gI;rw[aH h,aH h2,aH h3]
theorem Ce (x:Item) (frm tk:Int) (w:World):Calls prog 186 #[Me x,frm,tk] w λe w'=>e= .returned (Me (gI frm tk x))/\Below w.heap.size w w':=by
 have M:Mem prog w [] w []:=Mem.start;go_enter func186,ntmps186;refine Sq (Sa M (λJ1 wv M=>?_));refine Sa M (λJ2 wv M=>Sz (ae (Sq ?_)));refine Sb M [1] 1 ?_;refine Sc (aF (kJ x _) ?_);rintro e w' ⟨rfl,hb⟩;replace M:=M.next hb;refine Sp ?_;refine Sb M [] 1 ?_;refine So ((bif (eI x) then undef else .int .i64 frm)) (λK Z hK=>by rcases ac ((eI x)) with hg|hg<;>simp only[hg,ar,ak,aD,aB,az,aq,aj,am]at hK<;>go_simp<;>exact hK) ?_;refine So ((bif (eI x) then undef else .int .i64 tk)) (λK Z hK=>by rcases ac ((eI x)) with hg|hg<;>simp only[hg,ar,ak,aD,aB,az,aq,aj,am]at hK<;>go_simp<;>exact hK) ?_;refine So ((bif (eI x) then undef else .bool ((frm:Int)==(tk:Int)))) (λK Z hK=>by rcases ac ((eI x)) with hg|hg<;>simp only[hg,ar,ak,aD,aB,az,aq,aj,am]at hK<;>go_simp<;>exact hK) ?_;refine So (.bool ((eI x)||((frm:Int)==(tk:Int)))) (λK Z hK=>by rcases ac ((eI x)) with hg|hg<;>simp only[hg,ar,ak,aD,aB,az,aq,aj,am]at hK<;>go_simp<;>exact hK) ?_;refine Sb M [] 1 ?_;refine So ((bif ((eI x)||((frm:Int)==(tk:Int))) then undef else .int .i64 tk)) (λK Z hK=>by rcases ac (((eI x)||((frm:Int)==(tk:Int)))) with hg|hg<;>simp only[hg,ar,ak,aD,aB,az,aq,aj,am]at hK<;>go_simp<;>exact hK) ?_;refine So ((bif ((eI x)||((frm:Int)==(tk:Int))) then undef else .bool ((tk:Int)==(2:Int)))) (λK Z hK=>by rcases ac (((eI x)||((frm:Int)==(tk:Int)))) with hg|hg<;>simp only[hg,ar,ak,aD,aB,az,aq,aj,am]at hK<;>go_simp<;>exact hK) ?_;refine So (.bool (((eI x)||((frm:Int)==(tk:Int)))||((tk:Int)==(2:Int)))) (λK Z hK=>by rcases ac (((eI x)||((frm:Int)==(tk:Int)))) with hg|hg<;>simp only[hg,ar,ak,aD,aB,az,aq,aj,am]at hK<;>go_simp<;>exact hK) (Sz ?_);refine lW (λh1=>?_) (λh1=>?_)
 ·rw[h1];replace h1:=aa h1;refine Sq (Sb M [1] 1 ?_);refine Ss M 0 (λwv M=>Sz (aO (fI ?_)));refine kN results186 M 0 ?_;exact⟨by rw[RG (by simpa [or_assoc]using h1.out)];try rfl,M.bel⟩
 ·rw[h1];replace h1:=aa h1;refine bd (dV (ae (Ra M [] ?_)));refine lW (λh2=>?_) (λh2=>?_)
  ·rw[h2];replace h2:=aa h2;refine Sq (Sb M [1] 1 ?_);refine Sc (aF (vr x _) ?_);rintro e w' ⟨rfl,hb⟩;replace M:=M.next hb;refine Sp ?_;refine Sc (aF (pm ((qq x)) _) ?_);rintro e w' ⟨rfl,hb⟩;replace M:=M.next hb;refine Sp ?_;refine Ss M 0 (λwv M=>Sz (aO (fI ?_)));refine kN results186 M 0 ?_;exact⟨by rw[TX (λhh=>by have q:=h1.out;simp at q;simp_all) qk];try rfl,M.bel⟩
  ·rw[h2];replace h2:=aa h2;refine bd (dV (ae (Ra M [1] ?_)));refine lW (λh3=>?_) (λh3=>?_)
   ·rw[h3];replace h3:=aa h3;refine Sq (Sc (aF (pm ([84,82,85,69]) _) ?_));rintro e w' ⟨rfl,hb⟩;replace M:=M.next hb;refine Sp ?_;refine Ss M 0 (λwv M=>Sz (aO (fI ?_)));refine kN results186 M 0 ?_;exact⟨by rw[RH (λhh=>by have q:=h1.out;simp at q;simp_all) qk (by simpa using h3.out)];try rfl,M.bel⟩
   ·rw[h3];replace h3:=aa h3;refine bd (dV (Sq (Sc (aF (pm ([70,65,76,83,69]) _) ?_))));rintro e w' ⟨rfl,hb⟩;replace M:=M.next hb;refine Sp ?_;refine Ss M 0 (λwv M=>Sz (aO ?_));refine kN results186 M 0 ?_;exact⟨by rw[O3 (λhh=>by have q:=h1.out;simp at q;simp_all) qk (by simpa using h3.out)];try rfl,M.bel⟩
def ZR (x:Item):Str:=if x.num=1 then[84,82,85,69] else[70,65,76,83,69]
theorem abQ (h1:0<=x.num) (h2:x.num<2):([sv [70,65,76,83,69],sv [84,82,85,69]]:List Value)[x.num.toNat]?=some (sv (ZR x)):=by rcases(show x.num=0\/x.num=1 by omega) with h|h<;>simp [ZR,h]
theorem Yc {α:Type} {A:Bool->α} {x:Item}:(if x.num=0 then if x.den=0 then if x.text=[] then A true else A false else A false else A false)=A (eI x):=by
 cases x with
 |mk a b c=>
  rw[show eI ⟨a,b,c⟩=decide (a=0/\b=0/\c=[]) by rw[bg];simp [eI]];by_cases h1:a=0<;>by_cases h2:b=0<;>by_cases h3:c=[]<;>simp [h1,h2,h3]
def sI (frm tk:Int) (x:Item):Item:=if tk≠3\/frm=3\/eI x=true then x else if frm=1 then sN (ZR x) else sN (qq x)
theorem TY (h:tk≠3\/frm=3\/eI x=true):sI frm tk x=x:=by unfold sI;rw[aN h]
theorem W9 (h:¬(tk≠3\/frm=3\/eI x=true)) (h2:frm=1):sI frm tk x=sN (ZR x):=by unfold sI;rw[aH h,aN h2]
theorem W_ (h:¬(tk≠3\/frm=3\/eI x=true)) (h2:¬frm=1):sI frm tk x=sN (qq x):=by unfold sI;rw[aH h,aH h2]
theorem Dh (x:Item) (h1:1<=frm) (h2:frm<=tk) (h3:tk<=3):sI frm tk x=gI frm tk x:=by
 unfold sI gI ZR;rcases(show tk=1\/tk=2\/tk=3 by omega) with rfl|rfl|rfl
 ·obtain rfl:frm=1:=dP;simp
 ·simp
 ·rcases(show frm=1\/frm=2\/frm=3 by omega) with rfl|rfl|rfl<;>simp<;>(try split)<;>(try split)<;>simp_all
theorem Nw (x:Item) (frm tk:Int) (hn:frm=1->0<=x.num/\x.num<2) (w:World):Calls prog 166 #[frm,tk,Me x] w λe w'=>e= .returned (Me (sI frm tk x))/\Below w.heap.size w w':=by
 have HN:=aa hn;have HMI:=aa (show eI x=eI x from rfl);clear hn;have M:Mem prog w [] w []:=Mem.start;go_enter func166,ntmps166;refine Sq (Sa M (λJ1 wv M=>?_));refine Sa M (λJ2 wv M=>Sz (ae (Sq ?_)));refine Sb M [] 3 ?_;refine So ((bif ((tk:Int) != (3:Int)) then undef else .int .i64 frm)) (λK Z hK=>by rcases ac (((tk:Int) != (3:Int))) with hg|hg<;>simp only[hg,ar,ak,aD,aB,az,aq,aj,am]at hK<;>go_simp<;>exact hK) ?_;refine So ((bif ((tk:Int) != (3:Int)) then undef else .bool ((frm:Int)==(3:Int)))) (λK Z hK=>by rcases ac (((tk:Int) != (3:Int))) with hg|hg<;>simp only[hg,ar,ak,aD,aB,az,aq,aj,am]at hK<;>go_simp<;>exact hK) ?_;refine So (.bool (((tk:Int) != (3:Int))||((frm:Int)==(3:Int)))) (λK Z hK=>by rcases ac (((tk:Int) != (3:Int))) with hg|hg<;>simp only[hg,ar,ak,aD,aB,az,aq,aj,am]at hK<;>go_simp<;>exact hK) ?_;refine Sb M [] 1 ?_;refine So ((bif (((tk:Int) != (3:Int))||((frm:Int)==(3:Int))) then undef else .agg #[x.num,x.den,sv x.text])) (λK Z hK=>by have hc:=(M.bl 1 rfl).cells;simp only[ju,Nat.reduceAdd]at hc;(repeat (obtain⟨c,hc⟩:=hc));rcases ac ((((tk:Int) != (3:Int))||((frm:Int)==(3:Int)))) with hg|hg<;>simp only[hg,ar,ak,aD,aB,az,aq,aj,am]at hK<;>go_simp<;>exact hK) ?_;refine So ((bif (((tk:Int) != (3:Int))||((frm:Int)==(3:Int))) then undef else .agg #[.int .i64 0,.int .i64 0,sv []])) (λK Z hK=>by rcases ac ((((tk:Int) != (3:Int))||((frm:Int)==(3:Int)))) with hg|hg<;>simp only[hg,ar,ak,aD,aB,az,aq,aj,am]at hK<;>go_simp<;>exact hK) ?_;replace M:=M.up [1];refine So ((bif (((tk:Int) != (3:Int))||((frm:Int)==(3:Int))) then undef else .bool (eI x))) (λK Z hK=>by
  have kB:=M.bl 0 rfl;have c0:wv.cell? _=some _:=kB.cell 0;have c1:wv.cell? _=some _:=kB.cell 1;have c2:wv.cell? _=some _:=kB.cell 2;clear kB M;rcases ac ((((tk:Int) != (3:Int))||((frm:Int)==(3:Int)))) with hg|hg<;>simp only[hg,aD,aB]at hK<;>go_simp
  ·exact hK
  ·rw[Yc (A:=λb=>Result.ok (Next.value (Value.bool b)) wv)];exact hK) ?_
 refine So (.bool ((((tk:Int) != (3:Int))||((frm:Int)==(3:Int)))||(eI x))) (λK Z hK=>by rcases ac ((((tk:Int) != (3:Int))||((frm:Int)==(3:Int)))) with hg|hg<;>simp only[hg,ar,ak,aD,aB,az,aq,aj,am]at hK<;>go_simp<;>exact hK) (Sz ?_);refine lW (λh1=>?_) (λh1=>?_)
 ·rw[h1];replace h1:=aa h1;refine Sq (Sb M [0] 1 ?_);refine Ss M 1 (λwv M=>Sz (aO (fI ?_)));refine kN results166 M 1 ?_;exact⟨by rw[TY (by have q:=h1.out;simpa [or_assoc]using q)];try rfl,M.bel⟩
 ·rw[h1];replace h1:=aa h1;refine bd (dV (ae (Ra M [] ?_)));refine lW (λh2=>?_) (λh2=>?_)
  ·rw[h2];replace h2:=aa h2;refine Sq (Sa M (λJ3 wv M=>?_));refine Sb M [1] 2 ?_;refine So (.pointer (some ⟨J3.b,x.num.toNat,none⟩)) (λK Z hK=>by obtain⟨z1,z2⟩:=HN.out (by have q:=h2.out;simpa using q);go_simp;exact hK) ?_
   refine So (sv (ZR x)) (λK Z hK=>by obtain⟨z1,z2⟩:=HN.out (by have q:=h2.out;simpa using q);have c:wv.cell? _=some (sv (ZR x)):=((M.bl 0 rfl).cell x.num.toNat).trans (abQ z1 z2);clear M;go_simp;exact hK) ?_
   refine Sc (aF (t9 ((ZR x)) _) ?_);rintro e w' ⟨rfl,hb⟩;replace M:=M.next hb;refine Sp ?_;refine Ss M 2 (λwv M=>Sz (aO (fI ?_)));refine kN results166 M 2 ?_;exact⟨by rw[W9 (λhh=>by have q:=h1.out;simp at q;simp_all) qk];try rfl,M.bel⟩
  ·rw[h2];replace h2:=aa h2;refine bd (dV (Sq (Sb M [0] 1 ?_)));refine Sc (aF (vX x _) ?_);rintro e w' ⟨rfl,hb⟩;replace M:=M.next hb;refine Sp ?_;refine Sc (aF (t9 ((qq x)) _) ?_);rintro e w' ⟨rfl,hb⟩;replace M:=M.next hb;refine Sp ?_;refine Ss M 1 (λwv M=>Sz (aO ?_));refine kN results166 M 1 ?_;exact⟨by rw[W_ (λhh=>by have q:=h1.out;simp at q;simp_all) qk];try rfl,M.bel⟩
theorem wK {k:Int} (h:¬k=4):conv v k=⟨k,v.items.map (gI v.kind k),[],v.names,[],[],0,0⟩:=by unfold conv;rw[aH h]
theorem Ds (v:Vec) (k:Int) (cs:List Value) (w:World) (h:rep w w.heap.size v.toD cs) (hni:v.items.length<=40) (hnn:v.names.length<=40) (h5:¬v.kind=5) (h0:0<=v.kind) (hvk:v.kind<=k) (hk:k<4) (mT:∀x∈v.items,itOK (gI v.kind k x)):
 Calls prog 160 #[av cs,k] w (eH (conv v k).toD 38 (.bool true) w):=by
 obtain⟨Ai,ci,Ap,cp,An,cn,Ac,cc,Al,cl,rfl,wk,ri,rp,rn,rc,rl,wc,we⟩:=d_ h;have Qv:=aa mT;obtain⟨_,_,_,he,-,-,hri,-⟩:=(NS _ _ _ _).1 ri;injection he with he;injection he with e1 e2 e3;subst e1 e2 e3
 have q1:(v.kind==5)=false:=by simpa using h5
 have q2:decide (k<v.kind)=false:=dS;have q3:(k==4)=false:=dS;have Z3:(Lit.int .i64 k).wf=true:=kP.2 fP;have uL:=aa (show ¬k=4 by omega);clear mT;have M:Mem prog w [] w []:=Mem.start;go_enter func160,ntmps160;refine Sq (Sa M (λJ1 wv M=>?_));refine Sa M (λJ2 wv M=>?_);refine Sb M [] 1 (Sz (Sq ?_));refine Sb M [1] 3 ?_;refine Sc (Ik (gJ v.names An _ cn _ (M.arg rn) dP) M λJ3 wv M=>Sp ?_);refine Sb M [] 1 ?_;refine Sa M (λJ4 wv M=>?_);refine Ss M 0 (λwv M=>Sz (ae ?_));refine Ra M [3] ?_;refine gk (ae ?_);refine Ra M [3] ?_;refine gk (ae ?_);refine Ra M [] ?_;refine gk (ae ?_);refine Ra M [3] (aJ ?_);refine fy (ι:=Nat × Option Addr × Nat) [12,73,74,75,76,77,78,79,80,81,82,83,84,85,86] (λfu=>match fu with|(j,Ao,co)=>[(72,.int .i64 (j:Nat))]) (λfu=>match fu with|(j,Ao,co)=>j<=v.items.length) (λfu=>match fu with|(j,Ao,co)=>[.ow (.sl (((v.items.take j).map (gI v.kind k)).map Item.toD)) 35 [.slice Ao j co],.ow (.sl (v.names.map D.s)) 25 [.slice J3.a v.names.length J3.c],.bk (J4.b) 38 [k,.slice Ao j co,(),.slice J3.a v.names.length J3.c,(),(),.int .i64 0,.int .i64 0],.bk (J2.b) 38 [.int .i64 0,(),(),(),(),(),.int .i64 0,.int .i64 0],.bk (J1.b) 38 [v.kind,.slice Ai v.items.length ci,.slice Ap v.parts.length cp,.slice An v.names.length cn,.slice Ac v.cls.length cc,.slice Al v.levels.length cl,v.code,v.env]]) (λfu=>match fu with|(j,Ao,co)=>v.items.length - j) (0,none,0) dP ((M.nil (t:=35) underlying35).sel [0,2,1,3,4] dQ) ?_;rintro⟨j,Ao,co⟩ Mf W1 K1 h1 M rH;try dsimp only at h1 M ⊢
 refine uM ?_;refine Ra M [] (ae ?_);refine lW (λhlt=>?_) (λhlt=>?_)
 ·rw[hlt];replace hlt:=aa hlt;have hlj:j<v.items.length:=ko;obtain⟨b,off,x,rfl,gD,hx,c0,c1,c2⟩:=hri.at3 hlj;replace hx:=aa hx;have mT:=Qv.out x (aA hx.out);have j0:(0:Int)<=(j:Int):=dP;have j1:(j:Int)<(v.items.length:Int):=dP;refine bd (dV (ae (aJ (Sq (Sb M [] 1 ?_)))));refine Sf (show W1.cell? ⟨b,off+j*3,none⟩=some (.int .i64 x.num)/\W1.cell? ⟨b,off+j*3+1,none⟩=some (.int .i64 x.den)/\W1.cell? ⟨b,off+j*3+2,none⟩=some (sv x.text) from⟨(M.bel.cell gD).trans c0,(M.bel.cell gD).trans c1,(M.bel.cell gD).trans c2⟩) ?_;refine Sa M (λJ5 wv M=>?_);refine Ss M 0 (λwv M=>Sz ?_);refine CJ (M.sel [0,1,3,5,2,4] dQ) [none,some 8,some 10,none] [.o (J4.b) 1,.l 2 1,.la 0,.o (J1.b) 0,.l 3 0,.i (k),.v (.c (.agg #[.int .i64 (gI v.kind k x).num,.int .i64 (gI v.kind k x).den,sv (gI v.kind k x).text])),.v (.e 7 (λMg=> .slice (some ⟨Mg.b,0,none⟩) 1 1)),.v (vA 8 (j+1)),.p 8,.u] [.b 7 none 135 6,.e 8 none (oA 8 (.sl ((((v.items.take j).map (gI v.kind k)).map Item.toD)++[(gI v.kind k x).toD])) 35 (j+1)),.s 10 none 2 [(1,vA 8 (j+1))]] [[],[2],[0],[],[3],[],[],[],[4],[],[]] [] ?_ ?_
  ·show ∀i,i<11->_;refine On (On ?_ eh) (vI [2] [6] 1);refine On ?_ (tn [1] [5] [4] (h:=λγ wv R K M hK=>by have M:=M.item mT;exact mG (((M.pull 2 rfl).pull 1 rfl).pull 2 rfl) kM dU rfl (.tmp 77) (.tmp 83) rfl rfl rfl rfl eb dP λg c' w' M'=>hK (R3 g c') w' M'))
   refine On ?_ (kX [4]);refine On ?_ (tn [] [] [] (h:=λγ wv R K M hK=>by go_simp;go_at_call 186;exact f_ (Ce x v.kind k _) M hK))
   exact On (On (On (On (On (On Oz eh) (e_ [2] 1)) (ZX [0])) eh) (e_ [3] 0)) eB
  intro Ho wv M;replace M:Mem _ _ _ _ [_,_,.bk _ _ [_,_,_],.ow _ _ _,.bk _ _ [_,_,_,_,_,_,_,_],_,_]:=M;refine fA (dV (Rb M [] (dV ?_)));exact rH (j+1,(some ⟨(Ho 8).b,0,none⟩),(Ho 8).c) _ _ dU (by(try dsimp only);omega) (by(try dsimp only);omega) (by(try dsimp only);rw[eJ hx.out,aI,aI];exact M.sel [3,5,4,6,1] dQ)
 ·rw[hlt];replace hlt:=aa hlt;obtain rfl:j=v.items.length:=ko;refine bo (es (es (fT (dV (Sq (Sb M [2] 1 ?_))))));refine Ss M 3 (λwv M=>?_);refine Sb M [] 1 (Sz (aO ?_));refine kN results160 M 3 ?_;have MZ:=M.sel [0,1] dQ;simp only[lH,bH,bY,ah,ag,cC]at MZ;have MZ:=(((MZ.nil (t:=25) underlying25).nil (t:=25) underlying25).nil (t:=36) underlying36);replace MZ:=MZ.up [4,1,4];rw[wK uL.out];exact(Mem.joinVec (v:=⟨k,v.items.map (gI v.kind k),[],v.names,[],[],0,0⟩) MZ Z3 le le).retTwo
theorem vY (l:List Int) (jb:∀y∈l,1<=y/\y<=40) (A:Option Addr) (n c:Nat) (w:World) (h:rep w w.heap.size (.sl (l.map (D.i .i64))) [.slice A n c]) (hn:(n:Int)<=40):Calls prog 54 #[.slice A n c] w (gM (nU l).toD 38 w):=by
 obtain⟨A',n',c',he,Nh,hnm,hr,-⟩:=(qy _ _ _ _).1 h;injection he with he;injection he with f1 f2 f3;subst f1 f2 f3
 have HL:=aa hr.len;have HA:=aa jb;clear jb;have O6:Below w.heap.size w ((w.alloc (.cells #[.int .i64 0,(),(),(),(),(),.int .i64 0,.int .i64 0] 38)).alloc (.cells #[.int .i64 2,(),(),(),(),(),.int .i64 0,.int .i64 0] 38)):=((Below.refl _ _).alloc (af _) _).alloc dR _;have kR0:Blk ((w.alloc (.cells #[.int .i64 0,(),(),(),(),(),.int .i64 0,.int .i64 0] 38)).alloc (.cells #[.int .i64 2,(),(),(),(),(),.int .i64 0,.int .i64 0] 38)) w.heap.size 38 [.int .i64 0,(),(),(),(),(),.int .i64 0,.int .i64 0]:=(Blk.new' (l:=[.int .i64 0,.slice none 0 0,.slice none 0 0,.slice none 0 0,.slice none 0 0,.slice none 0 0,.int .i64 0,.int .i64 0])).al;have k30:Blk ((w.alloc (.cells #[.int .i64 0,(),(),(),(),(),.int .i64 0,.int .i64 0] 38)).alloc (.cells #[.int .i64 2,(),(),(),(),(),.int .i64 0,.int .i64 0] 38)) (w.heap.size+1) 38 [.int .i64 2,(),(),(),(),(),.int .i64 0,.int .i64 0]:=Gs;go_enter func54,ntmps54;go_wp2_with fail;obtain⟨W,hW⟩:∃W,W=((w.alloc (.cells #[.int .i64 0,(),(),(),(),(),.int .i64 0,.int .i64 0] 38)).alloc (.cells #[.int .i64 2,(),(),(),(),(),.int .i64 0,.int .i64 0] 38)):=⟨_,rfl⟩;rw[<-hW]at O6 kR0 k30 ⊢;clear hW;go_loopw [4] (λi wr=>∃(j:Nat) (Aq:Option Addr) (cq:Nat) (Fq:List Nat),j<=n/\i= .int .i64 j/\Blk wr w.heap.size 38 [.int .i64 0,(),(),(),(),(),.int .i64 0,.int .i64 0]/\Blk wr (w.heap.size+1) 38 [.int .i64 2,.slice Aq j cq,(),(),(),(),.int .i64 0,.int .i64 0]/\own prog wr (.sl (((l.take j).map l_).map Item.toD)) 35 Fq [.slice Aq j cq]/\Fresh (w.heap.size+1+1) Fq/\Below w.heap.size w wr) (λi _=>n - (intOf i).toNat)
 case atStart=>exact⟨0,none,0,[],by omega,rfl,kR0,k30,kY underlying35,Fresh.nil,O6⟩
 case round=>
  clear kR0 k30 O6;obtain⟨j,Aq,cq,Fq,hj,rfl,kR,k3,oq,qL,bel⟩:=hrel;have hwr:w.heap.size+1<wr.heap.size:=k3.lt;by_cases hlj:j<n
  ·obtain⟨b,off,y,rfl,gD,hy,R9⟩:=hr.atI hlj;obtain⟨WF,Ya⟩:=HA.out y (aA hy);have HX:=aa hy;have hcy:=(bel.cell (p:=⟨b,off+j,none⟩) gD).trans R9;have j0:(0:Int)<=(j:Int):=dP;have j1:(j:Int)<(n:Int):=dP;clear hy;go_wp2_with fail;refine bu ?_;refine aW (S:=λV=>V.cell? ⟨b,off+j,none⟩=some (.int .i64 y)) dU hcy (λhH=>?_);replace kR:=kR.dw;replace k3:=k3.dw;replace oq:=gX oq;replace bel:=bel.drew;have abE:w.heap.size+1<wr.drew.heap.size:=hwr;have XH:wr.drew.cell? ⟨b,off+j,none⟩=some (.int .i64 y):=hcy;have SX:=(show wr.drew.cell? ⟨b,off+j,none⟩=some (.int .i64 y) from XH);generalize wr.drew=v0 at kR k3 oq bel abE XH SX ⊢;have cv0:=k3.cell 1;simp only[ah,ag]at cv0;refine ey 0 ?_;refine ey 2 ?_;refine ey 3 ?_;refine ey 4 ?_;refine ey 5 ?_;refine dG (rs:=[1,6]) dU dR (λi hi=>?_);simp only[aX,df,or_false]at hi;rcases hi with rfl|rfl;all_goals refine dD gO (λK hK=>?_)
   ·go_simp;refine hK _ _ ⟨SX,?_⟩;refine iW ?_;refine fZ 6 ?_;intro K hK;go_simp;go_at_call 126;refine(xD y WF Ya _).mono ?_;rintro e w3 ⟨rfl,lE⟩;have z3:=lE.size;have Yf:=kR.next lE;have CC:=k3.next lE;have ZY:=em oq lE;have x4:Below w3.heap.size w3 (w3.alloc (.cells #[.int .i64 y,.int .i64 1,sv []] 135)):=(Below.refl _ _).alloc (af _) _;have kn4:Blk (w3.alloc (.cells #[.int .i64 y,.int .i64 1,sv []] 135)) w3.heap.size 135 [.int .i64 y,.int .i64 1,sv []]:=Blk.new' (l:=[.int .i64 y,.int .i64 1,sv []]);have Jm:=CC.cell 1;simp only[ah,ag]at Jm;have Jn:=(CC.next x4).cell 1;simp only[ah,ag]at Jn;have XG:=(bel.trans (lE.mono bel.size)).cell (p:=⟨b,off+j,none⟩) gD |>.trans R9
    have Uq:=(bel.trans ((ij lE x4).mono bel.size)).cell (p:=⟨b,off+j,none⟩) gD |>.trans R9
    have KG:=ij bel lE;refine hK _ _ ⟨XG,?_⟩;refine iW ?_;refine fZ 7 ?_;intro K hK;go_simp;refine hK _ _ ⟨Uq,?_⟩;refine iW ?_;refine fZ 8 ?_;intro K hK;refine gL (A:=Aq) (n:=j) (c:=cq) (b:=w3.heap.size) (m:=1) (xs:=((l.take j).map l_).map Item.toD) (F:=Fq) (d:=(l_ y).toD) (F':=[]) (te:=135) (cs:=[.int .i64 y,.int .i64 1,sv []]) kM ?_ ?_ (.tmp 18) (.tmp 24) ?_ ?_ ?_ ?_ ?_ ?_ ?_ ?_ ?_ ?_ ?_
    ·kernel_rfl
    ·rfl
    ·rfl
    ·rfl
    ·exact lz
    ·rfl
    ·exact kn4
    ·exact pI
    ·rfl
    ·exact lw
    ·exact g8
    ·omega
    intro gg gc w5 F5 o5 ap5 md5;simp only[dT]at ap5;have U8:=Blk.mod (g:=w.heap.size) (Yf.next x4) md5 (qL.notin dP);have vB:=Blk.mod (g:=w.heap.size+1) (CC.next x4) md5 (qL.notin dP);have z5:=md5.size;simp only[dT]at z5;have uW:=jN (ij KG x4) md5 (λy hy=>by have:=qL.2 y hy;omega) eA;have pU:=vB.cell 1;simp only[ah,ag]at pU;have Zr:=vB.frozen 1;have UL:w.heap.size+1<w5.heap.size:=vB.lt;have M7:=uW.cell (p:=⟨b,off+j,none⟩) gD |>.trans R9
    refine hK _ _ ⟨M7,?_⟩;refine iW ?_;have SX2:=(show _ from M7);refine ey 9 ?_;refine fZ 10 ?_;intro K hK;go_simp;have Ur:=(uW.setCell (p:=⟨w.heap.size+1,1,none⟩) kt (.slice (some ⟨gg,0,none⟩) (j+1) gc)).cell (p:=⟨b,off+j,none⟩) gD |>.trans R9
    refine hK _ _ ⟨Ur,?_⟩;refine iW ?_;refine bv dU ?_ _;refine ba ?_;clear Jm Jn pU;go_wp2_with fail;go_roundw
    case rel=>
     have Tt:∀y∈F5,y∈Fq\/w.heap.size+1+1<=y:=λy hy=>pF;have MU:∀y∈F5,w.heap.size+1+1<=y:=λy hy=>pG;refine⟨j+1,some ⟨gg,0,none⟩,gc,F5,by omega,by go_num,Blk.pk (p:=⟨w.heap.size+1,1,none⟩) iT U8,vB.set_ 1 _,?_,⟨ap5.1,MU⟩,uW.setCell kt _⟩;rw[eJ HX.out,aI,aI];exact ft o5 (λhm=>by have:=MU _ hm;simp at this;omega)
    case measure=>simp [intOf];omega
   ·
    go_simp;go_at_call 126;refine(xD y WF Ya _).mono ?_;rintro e w3 ⟨rfl,lE⟩;have z3:=lE.size;have Yf:=kR.next lE;have CC:=k3.next lE;have ZY:=em oq lE;have x4:Below w3.heap.size w3 (w3.alloc (.cells #[.int .i64 y,.int .i64 1,sv []] 135)):=(Below.refl _ _).alloc (af _) _;have kn4:Blk (w3.alloc (.cells #[.int .i64 y,.int .i64 1,sv []] 135)) w3.heap.size 135 [.int .i64 y,.int .i64 1,sv []]:=Blk.new' (l:=[.int .i64 y,.int .i64 1,sv []]);have Jm:=CC.cell 1;simp only[ah,ag]at Jm;have Jn:=(CC.next x4).cell 1;simp only[ah,ag]at Jn;have XG:=(bel.trans (lE.mono bel.size)).cell (p:=⟨b,off+j,none⟩) gD |>.trans R9
    have Uq:=(bel.trans ((ij lE x4).mono bel.size)).cell (p:=⟨b,off+j,none⟩) gD |>.trans R9
    have KG:=ij bel lE;refine hK _ _ ⟨XG,?_⟩;refine iW ?_;refine dG (rs:=[1,7]) dU dR (λi hi=>?_);simp only[aX,df,or_false]at hi;rcases hi with rfl|rfl;all_goals refine dD gO (λK hK=>?_)
    ·go_simp;refine hK _ _ ⟨XG,?_⟩;refine iW ?_;refine fZ 7 ?_;intro K hK;go_simp;refine hK _ _ ⟨Uq,?_⟩;refine iW ?_;refine fZ 8 ?_;intro K hK;refine gL (A:=Aq) (n:=j) (c:=cq) (b:=w3.heap.size) (m:=1) (xs:=((l.take j).map l_).map Item.toD) (F:=Fq) (d:=(l_ y).toD) (F':=[]) (te:=135) (cs:=[.int .i64 y,.int .i64 1,sv []]) kM ?_ ?_ (.tmp 18) (.tmp 24) ?_ ?_ ?_ ?_ ?_ ?_ ?_ ?_ ?_ ?_ ?_
     ·kernel_rfl
     ·rfl
     ·rfl
     ·rfl
     ·exact lz
     ·rfl
     ·exact kn4
     ·exact pI
     ·rfl
     ·exact lw
     ·exact g8
     ·omega
     intro gg gc w5 F5 o5 ap5 md5;simp only[dT]at ap5;have U8:=Blk.mod (g:=w.heap.size) (Yf.next x4) md5 (qL.notin dP);have vB:=Blk.mod (g:=w.heap.size+1) (CC.next x4) md5 (qL.notin dP);have z5:=md5.size;simp only[dT]at z5;have uW:=jN (ij KG x4) md5 (λy hy=>by have:=qL.2 y hy;omega) eA;have pU:=vB.cell 1;simp only[ah,ag]at pU;have Zr:=vB.frozen 1;have UL:w.heap.size+1<w5.heap.size:=vB.lt;have M7:=uW.cell (p:=⟨b,off+j,none⟩) gD |>.trans R9
     refine hK _ _ ⟨M7,?_⟩;refine iW ?_;have SX2:=(show _ from M7);refine ey 9 ?_;refine fZ 10 ?_;intro K hK;go_simp;have Ur:=(uW.setCell (p:=⟨w.heap.size+1,1,none⟩) kt (.slice (some ⟨gg,0,none⟩) (j+1) gc)).cell (p:=⟨b,off+j,none⟩) gD |>.trans R9
     refine hK _ _ ⟨Ur,?_⟩;refine iW ?_;refine bv dU ?_ _;refine ba ?_;clear Jm Jn pU;go_wp2_with fail;go_roundw
     case rel=>
      have Tt:∀y∈F5,y∈Fq\/w.heap.size+1+1<=y:=λy hy=>pF;have MU:∀y∈F5,w.heap.size+1+1<=y:=λy hy=>pG;refine⟨j+1,some ⟨gg,0,none⟩,gc,F5,by omega,by go_num,Blk.pk (p:=⟨w.heap.size+1,1,none⟩) iT U8,vB.set_ 1 _,?_,⟨ap5.1,MU⟩,uW.setCell kt _⟩;rw[eJ HX.out,aI,aI];exact ft o5 (λhm=>by have:=MU _ hm;simp at this;omega)
     case measure=>simp [intOf];omega
    ·go_simp;refine hK _ _ ⟨Uq,?_⟩;refine iW ?_;refine fZ 1 ?_;intro K hK;go_simp;refine hK _ _ ⟨Uq,?_⟩;refine iW ?_;refine fZ 8 ?_;intro K hK;refine gL (A:=Aq) (n:=j) (c:=cq) (b:=w3.heap.size) (m:=1) (xs:=((l.take j).map l_).map Item.toD) (F:=Fq) (d:=(l_ y).toD) (F':=[]) (te:=135) (cs:=[.int .i64 y,.int .i64 1,sv []]) kM ?_ ?_ (.tmp 18) (.tmp 24) ?_ ?_ ?_ ?_ ?_ ?_ ?_ ?_ ?_ ?_ ?_
     ·kernel_rfl
     ·rfl
     ·rfl
     ·rfl
     ·exact lz
     ·rfl
     ·exact kn4
     ·exact pI
     ·rfl
     ·exact lw
     ·exact g8
     ·omega
     intro gg gc w5 F5 o5 ap5 md5;simp only[dT]at ap5;have U8:=Blk.mod (g:=w.heap.size) (Yf.next x4) md5 (qL.notin dP);have vB:=Blk.mod (g:=w.heap.size+1) (CC.next x4) md5 (qL.notin dP);have z5:=md5.size;simp only[dT]at z5;have uW:=jN (ij KG x4) md5 (λy hy=>by have:=qL.2 y hy;omega) eA;have pU:=vB.cell 1;simp only[ah,ag]at pU;have Zr:=vB.frozen 1;have UL:w.heap.size+1<w5.heap.size:=vB.lt;have M7:=uW.cell (p:=⟨b,off+j,none⟩) gD |>.trans R9
     refine hK _ _ ⟨M7,?_⟩;refine iW ?_;have SX2:=(show _ from M7);refine ey 9 ?_;refine fZ 10 ?_;intro K hK;go_simp;have Ur:=(uW.setCell (p:=⟨w.heap.size+1,1,none⟩) kt (.slice (some ⟨gg,0,none⟩) (j+1) gc)).cell (p:=⟨b,off+j,none⟩) gD |>.trans R9
     refine hK _ _ ⟨Ur,?_⟩;refine iW ?_;refine bv dU ?_ _;refine ba ?_;clear Jm Jn pU;go_wp2_with fail;go_roundw
     case rel=>
      have Tt:∀y∈F5,y∈Fq\/w.heap.size+1+1<=y:=λy hy=>pF;have MU:∀y∈F5,w.heap.size+1+1<=y:=λy hy=>pG;refine⟨j+1,some ⟨gg,0,none⟩,gc,F5,by omega,by go_num,Blk.pk (p:=⟨w.heap.size+1,1,none⟩) iT U8,vB.set_ 1 _,?_,⟨ap5.1,MU⟩,uW.setCell kt _⟩;rw[eJ HX.out,aI,aI];exact ft o5 (λhm=>by have:=MU _ hm;simp at this;omega)
     case measure=>simp [intOf];omega
  ·obtain rfl:j=n:=dP;rw[aC ws]at oq;obtain⟨a0,a1,a2,a3,a4,a5,a6,a7⟩:=k3.c8;obtain⟨r0,r1,r2,r3,r4,r5,r6,r7⟩:=kR.c8;have zr:=λi=>kR.frozen i;have Tq:=zr 0;have zr1:=zr 1;have zr2:=zr 2;have zr3:=zr 3;have zr4:=zr 4;have zr5:=zr 5;have zr6:=zr 6;have zr7:=zr 7;have XB:w.heap.size<wr.heap.size:=dP;clear zr;go_wp2_with fail;refine bM (v:= .agg #[.int .i64 2,.slice Aq j cq,(),(),(),(),.int .i64 0,.int .i64 0]) (by simp [results,results54,go_sem,r0,r1,r2,r3,r4,r5,r6,r7,XB]) rfl ⟨_,Fq++([]++([]++([]++([]++[])))),rfl,?_,?_,?_⟩
   ·exact Gz
   ·simpa using qL.mono dP
   ·exact mg
theorem SG (x:Int) (w:World):Calls prog 167 #[x] w λe w'=>e= .returned (Me ⟨x,1,[]⟩)/\Below w.heap.size w w':=by
 go_enter func167,ntmps167;go_wp2_with fail;refine bM (v:=Me ⟨x,1,[]⟩) (by simp [results,results167,go_sem]) rfl ⟨rfl,?_⟩
 (repeat'(first|with_reducible assumption|with_reducible exact Below.refl _ _|with_reducible refine jR ?_|with_reducible refine gT ?_ ?_|with_reducible refine ie ?_ ?_|with_reducible refine gR ?_ dY ?_|((try simp only[dW,dT,dX]);omega)))
theorem ab2 (f:Nat) (ih:ab1 40 f):ab1 40 (f+1):=by
 intro h v g F B cs w H hr hB hBF jV;rw[rX]at jV;obtain⟨UD,K9,kD,mD⟩:=jV;obtain⟨Ai,ni,ci,Ap,np,cp,An,nn,cn,Ac,nc,cc,Al,nl,cl,rfl,wk,ri,rp,rn,rc,rl,wc,we⟩:=fw hr;have hlp:=ef rp;rw[au]at hlp;have UB:(np:Int)<=1073741824:=dP;have xo:=aa ih;have OR:=aa UD;have HL:=aa hlp;have JA:=H.lt;clear ih UD hlp mD hr;have x0:Below w.heap.size w ((w.alloc (.cells #[v.kind,.slice Ai ni ci,.slice Ap np cp,.slice An nn cn,.slice Ac nc cc,.slice Al nl cl,v.code,v.env] 38)).alloc (.cells #[.int .i64 1,.int .i64 0,(),(),(),(),(),.int .i64 0,.int .i64 0,()] 43)):=((Below.refl _ _).alloc (af _) _).alloc dR _;have k3:Blk ((w.alloc (.cells #[v.kind,.slice Ai ni ci,.slice Ap np cp,.slice An nn cn,.slice Ac nc cc,.slice Al nl cl,v.code,v.env] 38)).alloc (.cells #[.int .i64 1,.int .i64 0,(),(),(),(),(),.int .i64 0,.int .i64 0,()] 43)) w.heap.size 38 [v.kind,.slice Ai ni ci,.slice Ap np cp,.slice An nn cn,.slice Ac nc cc,.slice Al nl cl,v.code,v.env]:=(Blk.new' (l:=[.int .i64 v.kind,.slice Ai ni ci,.slice Ap np cp,.slice An nn cn,.slice Ac nc cc,.slice Al nl cl,.int .i64 v.code,.int .i64 v.env])).al;have k5:Blk ((w.alloc (.cells #[v.kind,.slice Ai ni ci,.slice Ap np cp,.slice An nn cn,.slice Ac nc cc,.slice Al nl cl,v.code,v.env] 38)).alloc (.cells #[.int .i64 1,.int .i64 0,(),(),(),(),(),.int .i64 0,.int .i64 0,()] 43)) (w.heap.size+1) 43 [.int .i64 1,.int .i64 0,(),(),(),(),(),.int .i64 0,.int .i64 0,()]:=by have:=Blk.new' (w:=w.alloc (.cells #[v.kind,.slice Ai ni ci,.slice Ap np cp,.slice An nn cn,.slice Ac nc cc,.slice Al nl cl,v.code,v.env] 38)) (t:=43) (l:=[.int .i64 1,.int .i64 0,.slice none 0 0,.slice none 0 0,.slice none 0 0,.slice none 0 0,.slice none 0 0,.int .i64 0,.int .i64 0,.slice none 0 0]);simpa only[dT]using this
 have H0:=H.next x0;obtain⟨W,hW⟩:∃W,W=((w.alloc (.cells #[v.kind,.slice Ai ni ci,.slice Ap np cp,.slice An nn cn,.slice Ac nc cc,.slice Al nl cl,v.code,v.env] 38)).alloc (.cells #[.int .i64 1,.int .i64 0,(),(),(),(),(),.int .i64 0,.int .i64 0,()] 43)):=⟨_,rfl⟩;have zW:W.heap.size=w.heap.size+1+1:=by rw[hW];simp only[dT]
 obtain⟨a0,a1,a2,a3,a4,a5,a6,a7⟩:=k3.c8;go_enter func40,ntmps40;go_wp2_with fail;rw[<-hW]at x0 k3 k5 H0 a0 a1 a2 a3 a4 a5 a6 a7 ⊢;clear hW a0 a1 a2 a3 a4 a5 a6 a7;go_loopw [12] (λt wr=>∃(j:Nat) (F':List Nat) (Aq:Option Addr) (cq:Nat) (Fq:List Nat),j<=np/\t= .int .i64 j/\HB wr g ((v.parts.take j).foldl (js (fL f)) (h,[])).1 F'/\Sub w.heap.size F F'/\Blk wr w.heap.size 38 [v.kind,.slice Ai ni ci,.slice Ap np cp,.slice An nn cn,.slice Ac nc cc,.slice Al nl cl,v.code,v.env]/\Blk wr (w.heap.size+1) 43 [.int .i64 1,.int .i64 0,(),(),(),(),(),.int .i64 0,.int .i64 0,.slice Aq j cq]/\
  own prog wr (.sl (((v.parts.take j).foldl (js (fL f)) (h,[])).2.map (D.i .i64))) 26 Fq [.slice Aq j cq]/\Fresh (w.heap.size+1+1) Fq/\(∀y∈w.heap.size::(w.heap.size+1)::Fq,y ∉ g::F')/\Mod (g::F) w wr) (λt _=>np - (intOf t).toNat)
 case atStart=>exact⟨0,F,none,0,[],by omega,rfl,H0,Sub.refl,k3,k5,kY underlying26,Fresh.nil,λy hy hm=>by(have:=H.lo y hm;simp at hy;omega),gU Mod.refl x0⟩
 case round=>
  clear k3 k5 H0 x0;obtain⟨j,F',Aq,cq,Fq,hj,rfl,Hj,sj,k3,k5,oq,qL,Bw,mj⟩:=hrel;have bw:Below B w wr:=mj.below hBF hB;have ZS:=gC oq;have hW1:w.heap.size<wr.heap.size:=k3.lt;have hW2:w.heap.size+1<wr.heap.size:=k5.lt;have hBr:B<=wr.heap.size:=dP;have hgj:=Hj.lt;obtain⟨a0,a1,a2,a3,a4,a5,a6,a7⟩:=k3.c8;by_cases hlj:j<np
  ·obtain⟨b,off,p,Ei,ui,vi,Ep,up,vp,En,un,vn,Ec,uc,vc,El,ul,vl,rfl,gD,hx,fE,e0,e1,e2,e3,e4,e5,e6,e7⟩:=my (fF rp bw) hlj;have HX:=aa hx;clear hx;go_wp2_with fail;have kp:Blk (wr.alloc (.cells #[p.kind,.slice Ei ui vi,.slice Ep up vp,.slice En un vn,.slice Ec uc vc,.slice El ul vl,p.code,p.env] 38)) wr.heap.size 38 [p.kind,.slice Ei ui vi,.slice Ep up vp,.slice En un vn,.slice Ec uc vc,.slice El ul vl,p.code,p.env]:=Blk.new' (l:=[.int .i64 p.kind,.slice Ei ui vi,.slice Ep up vp,.slice En un vn,.slice Ec uc vc,.slice El ul vl,.int .i64 p.code,.int .i64 p.env]);have xa:Below wr.heap.size wr (wr.alloc (.cells #[p.kind,.slice Ei ui vi,.slice Ep up vp,.slice En un vn,.slice Ec uc vc,.slice El ul vl,p.code,p.env] 38)):=(Below.refl _ _).alloc (af _) _;replace k3:=k3.next xa;replace k5:=k5.next xa;replace oq:=em oq xa;have XN:=Hj.lo;replace Hj:=Hj.next xa;replace fE:=fF fE (bw.alloc hBr (.cells #[p.kind,.slice Ei ui vi,.slice Ep up vp,.slice En un vn,.slice Ec uc vc,.slice El ul vl,p.code,p.env] 38) |> λ_=>(xa.mono hBr));have mx:=gU mj xa;obtain⟨wx,hwx⟩:∃wx,wx=wr.alloc (.cells #[p.kind,.slice Ei ui vi,.slice Ep up vp,.slice En un vn,.slice Ec uc vc,.slice El ul vl,p.code,p.env] 38):=⟨_,rfl⟩;have zx:wx.heap.size=wr.heap.size+1:=by rw[hwx];simp only[dT]
   obtain⟨bp,XE⟩:∃bp,bp=wr.heap.size:=⟨_,rfl⟩;rw[<-hwx]at kp k3 k5 oq Hj fE mx ⊢;rw[<-XE]at kp zx XN ZS ⊢;have uK:w.heap.size+1<bp:=dP;clear XE hwx xa e0 e1 e2 e3 e4 e5 e6 e7 a0 a1 a2 a3 a4 a5 a6 a7;have XW:=vL OR.out HX.out;have WY:=aa XW;clear XW;have XS:∀y∈w.heap.size::(w.heap.size+1)::Fq,y<wx.heap.size:=λy hy=>by
    rcases aX.1 hy with e|hy
    ·omega
    ·rcases aX.1 hy with e|hy
     ·omega
     ·have:=ZS y hy;omega
   have Xv:∀y∈g::F',B<=y:=λy hy=>by
    rcases kj (g:=g) sj y hy with h1|h1
    ·exact hBF y h1
    ·omega
   have cv:=k5.cell 9;simp only[ah,ag]at cv;obtain⟨b0,b1,b2,b3,b4,b5,b6,b7⟩:=kp.c8;refine bu ?_;refine aW (S:=λV=>V.cell? ⟨bp,0,none⟩=some (.int .i64 p.kind)/\V.cell? ⟨bp,1,none⟩=some (.slice Ei ui vi)/\V.cell? ⟨bp,2,none⟩=some (.slice Ep up vp)/\V.cell? ⟨bp,3,none⟩=some (.slice En un vn)/\V.cell? ⟨bp,4,none⟩=some (.slice Ec uc vc)/\V.cell? ⟨bp,5,none⟩=some (.slice El ul vl)/\V.cell? ⟨bp,6,none⟩=some (.int .i64 p.code)/\V.cell? ⟨bp,7,none⟩=some (.int .i64 p.env)) dU ⟨b0,b1,b2,b3,b4,b5,b6,b7⟩ (λhH=>?_);clear b0 b1 b2 b3 b4 b5 b6 b7;refine ey 0 ?_;refine ey 2 ?_;refine ey 3 ?_;have SD:=kp.dw.c8;refine dG (rs:=[1,4]) dU dR (λi hi=>?_);simp only[aX,df,or_false]at hi;rcases hi with rfl|rfl;all_goals refine dD gO (λK hK=>?_)
   ·go_simp;refine hK _ _ ⟨SD,?_⟩;refine iW ?_;refine fZ 4 ?_;intro K hK;go_simp;go_at_call 40;refine(xo.out _ p g F' B _ wx.drew Hj.dw (vP fE) si Xv WY.out).mono ?_;rintro e w3 ⟨rfl,X8,F3,H3,s3,m3⟩;have z3:=m3.size;simp only[dW]at z3 s3;obtain⟨q,hq⟩:∃q:Int,q=(fL f ((v.parts.take j).foldl (js (fL f)) (h,[])).1 p).2:=⟨_,rfl⟩;rw[<-hq]at X8 ⊢;have HQ:=aa hq;clear hq;have zJ:=AG Bw XS s3;have kp3:=Blk.mod (g:=bp) kp.dw m3 (λhm=>by have:=XN bp hm;omega);have CC:=Blk.mod (g:=w.heap.size) k3.dw m3 (Bw _ dR);have UZ:=Blk.mod (g:=w.heap.size+1) k5.dw m3 (Bw _ dR);have ZY:=fH (gX oq) m3 (λy hy=>Bw y eK);have x4:Below w3.heap.size w3 (w3.alloc (.cells #[q] 3)):=(Below.refl _ _).alloc (af _) _;have kn4:Blk (w3.alloc (.cells #[q] 3)) w3.heap.size 3 [q]:=Blk.new' (l:=[.int .i64 q]);have kp4:=kp3.next x4;have S3:=kp3.c8;have S4:=kp4.c8;have Jm:=UZ.cell 9;simp only[ah,ag]at Jm;have Jn:=(UZ.next x4).cell 9;simp only[ah,ag]at Jn;refine hK _ _ ⟨S3,?_⟩;refine iW ?_;refine fZ 5 ?_;intro K hK;go_simp;refine hK _ _ ⟨S4,?_⟩;refine iW ?_;refine fZ 6 ?_;intro K hK;refine gL (A:=Aq) (n:=j) (c:=cq) (b:=w3.heap.size) (m:=1) (xs:=((v.parts.take j).foldl (js (fL f)) (h,[])).2.map (D.i .i64)) (F:=Fq) (d:=D.i .i64 q) (F':=[]) (te:=3) (cs:=[.int .i64 q]) Kh ?_ ?_ (.tmp 17) (.tmp 21) ?_ ?_ ?_ ?_ ?_ ?_ ?_ ?_ ?_ ?_ ?_
    ·kernel_rfl
    ·rfl
    ·rfl
    ·rfl
    ·exact lz
    ·rfl
    ·exact kn4
    ·rw[own];exact⟨rfl,rfl,X8⟩
    ·rfl
    ·exact lw
    ·exact g8
    ·omega
    intro gg gc w5 F5 o5 ap5 md5;simp only[dT]at ap5;have ZQ:=Blk.mod (g:=bp) kp4 md5 (λhm=>by have:=ZS bp hm;omega);have vB:=Blk.mod (g:=w.heap.size) (CC.next x4) md5 (qL.notin dP);have PG:=Blk.mod (g:=w.heap.size+1) (UZ.next x4) md5 (qL.notin dP);have H5:=(H3.next x4).mod md5 (λy hy hm=>zJ y eV hy);have z5:=md5.size;simp only[dT]at z5;have S5:=ZQ.c8;have pU:=PG.cell 9;simp only[ah,ag]at pU;have Zr:=PG.frozen 9;have UL:w.heap.size+1<w5.heap.size:=PG.lt;refine hK _ _ ⟨S5,?_⟩;refine iW ?_;refine ey 7 ?_;refine fZ 8 ?_;intro K hK;go_simp;have kp6:=Blk.pk (p:=⟨w.heap.size+1,9,none⟩) (u:= .slice (some ⟨gg,0,none⟩) (j+1) gc) iT ZQ;refine hK _ _ ⟨kp6.c8,?_⟩;refine iW ?_;refine bv dU ?_ _;refine ba ?_;clear S3 S4 S5 Jm Jn pU;go_wp2_with fail;go_roundw
    case rel=>
     have Tt:∀y∈F5,y∈Fq\/y=w3.heap.size+1:=λy hy=>yL;refine⟨j+1,F3,some ⟨gg,0,none⟩,gc,F5,by omega,by go_num,?_,sj.trans s3 dP,Blk.pk (p:=⟨w.heap.size+1,9,none⟩) iT vB,PG.set_ 9 _,?_,⟨ap5.1,λy hy=>?_⟩,λy hy hm=>?_,?_⟩
     ·exact yj
     ·exact yz
     ·exact yH
     ·exact yC
     ·exact yq
    case measure=>simp [intOf];omega
   ·clear SD;go_simp;go_at_call 40;refine(xo.out _ p g F' B _ wx.drew Hj.dw (vP fE) si Xv WY.out).mono ?_;rintro e w3 ⟨rfl,X8,F3,H3,s3,m3⟩;have z3:=m3.size;simp only[dW]at z3 s3;obtain⟨q,hq⟩:∃q:Int,q=(fL f ((v.parts.take j).foldl (js (fL f)) (h,[])).1 p).2:=⟨_,rfl⟩;rw[<-hq]at X8 ⊢;have HQ:=aa hq;clear hq;have zJ:=AG Bw XS s3;have kp3:=Blk.mod (g:=bp) kp.dw m3 (λhm=>by have:=XN bp hm;omega);have CC:=Blk.mod (g:=w.heap.size) k3.dw m3 (Bw _ dR);have UZ:=Blk.mod (g:=w.heap.size+1) k5.dw m3 (Bw _ dR);have ZY:=fH (gX oq) m3 (λy hy=>Bw y eK);have x4:Below w3.heap.size w3 (w3.alloc (.cells #[q] 3)):=(Below.refl _ _).alloc (af _) _;have kn4:Blk (w3.alloc (.cells #[q] 3)) w3.heap.size 3 [q]:=Blk.new' (l:=[.int .i64 q]);have kp4:=kp3.next x4;have S3:=kp3.c8;have S4:=kp4.c8;have Jm:=UZ.cell 9;simp only[ah,ag]at Jm;have Jn:=(UZ.next x4).cell 9;simp only[ah,ag]at Jn;refine hK _ _ ⟨S3,?_⟩;refine iW ?_;refine dG (rs:=[1,5]) dU dR (λi hi=>?_);simp only[aX,df,or_false]at hi;rcases hi with rfl|rfl;all_goals refine dD gO (λK hK=>?_)
    ·go_simp;refine hK _ _ ⟨S3,?_⟩;refine iW ?_;refine fZ 5 ?_;intro K hK;go_simp;refine hK _ _ ⟨S4,?_⟩;refine iW ?_;refine fZ 6 ?_;intro K hK;refine gL (A:=Aq) (n:=j) (c:=cq) (b:=w3.heap.size) (m:=1) (xs:=((v.parts.take j).foldl (js (fL f)) (h,[])).2.map (D.i .i64)) (F:=Fq) (d:=D.i .i64 q) (F':=[]) (te:=3) (cs:=[.int .i64 q]) Kh ?_ ?_ (.tmp 17) (.tmp 21) ?_ ?_ ?_ ?_ ?_ ?_ ?_ ?_ ?_ ?_ ?_
     ·kernel_rfl
     ·rfl
     ·rfl
     ·rfl
     ·exact lz
     ·rfl
     ·exact kn4
     ·rw[own];exact⟨rfl,rfl,X8⟩
     ·rfl
     ·exact lw
     ·exact g8
     ·omega
     intro gg gc w5 F5 o5 ap5 md5;simp only[dT]at ap5;have ZQ:=Blk.mod (g:=bp) kp4 md5 (λhm=>by have:=ZS bp hm;omega);have vB:=Blk.mod (g:=w.heap.size) (CC.next x4) md5 (qL.notin dP);have PG:=Blk.mod (g:=w.heap.size+1) (UZ.next x4) md5 (qL.notin dP);have H5:=(H3.next x4).mod md5 (λy hy hm=>zJ y eV hy);have z5:=md5.size;simp only[dT]at z5;have S5:=ZQ.c8;have pU:=PG.cell 9;simp only[ah,ag]at pU;have Zr:=PG.frozen 9;have UL:w.heap.size+1<w5.heap.size:=PG.lt;refine hK _ _ ⟨S5,?_⟩;refine iW ?_;refine ey 7 ?_;refine fZ 8 ?_;intro K hK;go_simp;have kp6:=Blk.pk (p:=⟨w.heap.size+1,9,none⟩) (u:= .slice (some ⟨gg,0,none⟩) (j+1) gc) iT ZQ;refine hK _ _ ⟨kp6.c8,?_⟩;refine iW ?_;refine bv dU ?_ _;refine ba ?_;clear S3 S4 S5 Jm Jn pU;go_wp2_with fail;go_roundw
     case rel=>
      have Tt:∀y∈F5,y∈Fq\/y=w3.heap.size+1:=λy hy=>yL;refine⟨j+1,F3,some ⟨gg,0,none⟩,gc,F5,by omega,by go_num,?_,sj.trans s3 dP,Blk.pk (p:=⟨w.heap.size+1,9,none⟩) iT vB,PG.set_ 9 _,?_,⟨ap5.1,λy hy=>?_⟩,λy hy hm=>?_,?_⟩
      ·exact yj
      ·exact yz
      ·exact yH
      ·exact yC
      ·exact yq
     case measure=>simp [intOf];omega
    ·go_simp;refine hK _ _ ⟨S4,?_⟩;refine iW ?_;refine fZ 1 ?_;intro K hK;have cv5:=(UZ.next x4).cell 9;simp only[ah,ag]at cv5;go_simp;refine hK _ _ ⟨S4,?_⟩;refine iW ?_;refine fZ 6 ?_;intro K hK;refine gL (A:=Aq) (n:=j) (c:=cq) (b:=w3.heap.size) (m:=1) (xs:=((v.parts.take j).foldl (js (fL f)) (h,[])).2.map (D.i .i64)) (F:=Fq) (d:=D.i .i64 q) (F':=[]) (te:=3) (cs:=[.int .i64 q]) Kh ?_ ?_ (.tmp 17) (.tmp 21) ?_ ?_ ?_ ?_ ?_ ?_ ?_ ?_ ?_ ?_ ?_
     ·kernel_rfl
     ·rfl
     ·rfl
     ·rfl
     ·exact lz
     ·rfl
     ·exact kn4
     ·rw[own];exact⟨rfl,rfl,X8⟩
     ·rfl
     ·exact lw
     ·exact g8
     ·omega
     intro gg gc w5 F5 o5 ap5 md5;simp only[dT]at ap5;have ZQ:=Blk.mod (g:=bp) kp4 md5 (λhm=>by have:=ZS bp hm;omega);have vB:=Blk.mod (g:=w.heap.size) (CC.next x4) md5 (qL.notin dP);have PG:=Blk.mod (g:=w.heap.size+1) (UZ.next x4) md5 (qL.notin dP);have H5:=(H3.next x4).mod md5 (λy hy hm=>zJ y eV hy);have z5:=md5.size;simp only[dT]at z5;have S5:=ZQ.c8;have pU:=PG.cell 9;simp only[ah,ag]at pU;have Zr:=PG.frozen 9;have UL:w.heap.size+1<w5.heap.size:=PG.lt;refine hK _ _ ⟨S5,?_⟩;refine iW ?_;refine ey 7 ?_;refine fZ 8 ?_;intro K hK;go_simp;have kp6:=Blk.pk (p:=⟨w.heap.size+1,9,none⟩) (u:= .slice (some ⟨gg,0,none⟩) (j+1) gc) iT ZQ;refine hK _ _ ⟨kp6.c8,?_⟩;refine iW ?_;refine bv dU ?_ _;refine ba ?_;clear S3 S4 S5 Jm Jn pU;go_wp2_with fail;go_roundw
     case rel=>
      have Tt:∀y∈F5,y∈Fq\/y=w3.heap.size+1:=λy hy=>yL;refine⟨j+1,F3,some ⟨gg,0,none⟩,gc,F5,by omega,by go_num,?_,sj.trans s3 dP,Blk.pk (p:=⟨w.heap.size+1,9,none⟩) iT vB,PG.set_ 9 _,?_,⟨ap5.1,λy hy=>?_⟩,λy hy hm=>?_,?_⟩
      ·exact yj
      ·exact yz
      ·exact yH
      ·exact yC
      ·exact yq
     case measure=>simp [intOf];omega
  ·obtain rfl:j=np:=dP;rw[aC wu]at Hj oq;have fz:=k3.frozen 2;have bw1:Below B w (wr.setCell ⟨w.heap.size,2,none⟩ (.slice none 0 0)):=bw.setCell hB _;have rv:=uU (x:=noParts v) wk ri nK rn rc rl wc we;have mw:Mod [w.heap.size] wr (wr.setCell ⟨w.heap.size,2,none⟩ (.slice none 0 0)):=Mod.poke dR _;go_wp2_with fail;refine(jd (noParts v) _ _ (gY (fF rv bw1) qm) (by have:=PO v;omega)).mono ?_;rintro e w4 ⟨cs4,G4,rfl,o4,fr4,DB⟩;obtain⟨Bi,mi,di,Bp,mp,dp,Bn,mn,dn,Bc,mc,dc,Bl,ml,dl,rfl,-⟩:=fw (eW _ _ _ _ o4);have z4:=DB.size;simp only[dX]at z4 fr4;have H4:=(Hj.mod mw (λy hy hm=>by simp at hm;subst hm;exact Bw _ dR hy)).next DB;have k54:=(Blk.mod (g:=w.heap.size+1) k5 mw dR).next DB;have oq4:=em (fH oq mw (λy hy hm=>by simp at hm;subst hm;have:=qL.2 _ hy;omega)) DB;obtain⟨c0,c1,c2,c3,c4,c5,c6,c7,c8,c9⟩:=k54.d10;obtain⟨f0,f1,f2,f3,f4,f5,f6,f7,f8,f9⟩:=k54.fr10 (m:=0);simp only[bI]at f1 f2 f3 f4 f5 f6 f7 f8 f9;obtain⟨PG,m55⟩:=air k54 (.int .i64 v.kind) (.slice Bi mi di) (.slice Bp mp dp) (.slice Bn mn dn) (.slice Bc mc dc) (.slice Bl ml dl) (.int .i64 v.code) (.int .i64 v.env);have hw4:w.heap.size+1<w4.heap.size:=k54.lt;clear a0 a1 a2 a3 a4 a5 a6 a7;go_wp2_with fail;have oc:own prog _ (Cel.toD ⟨1,noParts v,(v.parts.foldl (js (fL f)) (h,[])).2⟩) 43 (G4++(Fq++[])) _:=uO (kP.2 dR) (fH o4 m55 (λy hy hm=>by simp at hm;subst hm;have:=fr4.2 _ hy;omega)) (fH oq4 m55 (λy hy hm=>by simp at hm;subst hm;have:=qL.2 _ hy;omega));have H5:=H4.mod m55 (λy hy hm=>by simp at hm;subst hm;exact Bw _ dR hy);have hGd:∀y∈G4++(Fq++[]),y ∉ g::F':=λy hy hm=>by
    rcases aG.1 hy with hy|hy
    ·have h1:=fr4.2 y hy;have h2:=Hj.lo y hm;omega
    ·exact Bw y qj hm
   have hGn:(G4++(Fq++[])).Nodup:=by rw[bP];exact aE.2 ⟨fr4.1,qL.1,λa ha b hb e=>by have h1:=fr4.2 a ha;have h2:=ZS b hb;omega⟩
   refine(Oe _ _ g F' _ _ _ H5 oc hGd hGn K9).mono ?_;rintro e w6 ⟨rfl,F6,H6,s6,m6⟩;go_wp2_with fail;go_ret;have z55:=m55.size;have hpd:fL (f+1) h v=gH (v.parts.foldl (js (fL f)) (h,[])).1 ⟨1,noParts v,(v.parts.foldl (js (fL f)) (h,[])).2⟩:=by rw[fL]
   rw[hpd];refine⟨rfl,E6 K9,F6,H6,λy hy=>?_,?_⟩
   ·rcases s6 y hy with h1|h1|h1
    ·exact sj y h1
    ·rcases aG.1 h1 with h1|h1
     ·have:=fr4.2 y h1;exact .inr dP
     ·have:=qL.2 y mt;exact .inr dP
    ·exact .inr dP
   ·exact nO (Mod.trans (gU (Mod.trans mj mw (λy hy=> .inr (by simp at hy;omega))) DB) m55 (λy hy=> .inr (by simp at hy;omega))) m6 (kj sj) (af _)
def Vf (f:Nat):Prop:=∀(h:Hp) (v:Vec) (g:Nat) (F:List Nat) (B:Nat) (cs:List Value) (w:World),HB w g h F->rep w B v.toD cs->B<=w.heap.size->(∀y∈g::F,B<=y)->rX f h v->okD 3 v=true->
 Calls prog 51 #[.pointer (some ⟨g,0,none⟩),.agg cs.toArray] w λe w'=>e= .returned (.int .i64 (fL f h v).2)/\(Lit.int .i64 (fL f h v).2).wf=true/\∃F',HB w' g (fL f h v).1 F'/\Sub w.heap.size F F'/\Mod (g::F) w w'
theorem SH (f:Nat) (ih:Vf f):Vf (f+1):=by
 intro h v g F B cs w H hr hB hBF jV hv;rw[rX]at jV;obtain⟨UD,K9,kD,mD⟩:=jV;have QS:=hr;obtain⟨Ai,ni,ci,Ap,np,cp,An,nn,cn,Ac,nc,cc,Al,nl,cl,rfl,wk,ri,rp,rn,rc,rl,wc,we⟩:=fw hr;have hlp:=ef rp;rw[au]at hlp;have UB:(np:Int)<=1073741824:=dP;have xo:=aa ih;have OR:=aa UD;have HL:=aa hlp;have HV:=aa hv;have JA:=H.lt;clear ih UD hlp mD hr hv;have x0:Below w.heap.size w (w.alloc (.cells #[v.kind,.slice Ai ni ci,.slice Ap np cp,.slice An nn cn,.slice Ac nc cc,.slice Al nl cl,v.code,v.env] 38)):=(Below.refl _ _).alloc (af _) _;have k3:Blk (w.alloc (.cells #[v.kind,.slice Ai ni ci,.slice Ap np cp,.slice An nn cn,.slice Ac nc cc,.slice Al nl cl,v.code,v.env] 38)) w.heap.size 38 [v.kind,.slice Ai ni ci,.slice Ap np cp,.slice An nn cn,.slice Ac nc cc,.slice Al nl cl,v.code,v.env]:=Blk.new' (l:=[.int .i64 v.kind,.slice Ai ni ci,.slice Ap np cp,.slice An nn cn,.slice Ac nc cc,.slice Al nl cl,.int .i64 v.code,.int .i64 v.env]);have H0:=H.next x0;go_enter func51,ntmps51;go_wp2_with fail;refine(nT v _ _ HV.out dP (fb (gY QS hB) x0 x0.size)).mono ?_;rintro e w1 ⟨cs1,G1,rfl,o1,AP,hb1⟩;obtain⟨Bi,mi,di,Bp,mp,dp,Bn,mn,dn,Bc,mc,dc,Bl,ml,dl,I1,I2,I3,I4,I5,rfl,rfl,p1,p2,p3,p4,p5⟩:=jE o1;have z1:=hb1.size;simp only[dT]at z1 AP;have k31:=k3.next hb1;obtain⟨a0,a1,a2,a3,a4,a5,a6,a7⟩:=k31.c8;have hw1:w.heap.size<w1.heap.size:=dP;go_wp2_with fail;obtain⟨W,hW⟩:∃W,W=(((w1.alloc (.cells #[v.kind,.slice Bi mi di,.slice (some ⟨w1.heap.size+1,0,none⟩) 0 0,.slice Bn mn dn,.slice Bc mc dc,.slice Bl ml dl,v.code,v.env] 38)).alloc (.cells #[] 38)).alloc (.cells #[] 3)):=⟨_,rfl⟩;have xb:Below w1.heap.size w1 (((w1.alloc (.cells #[v.kind,.slice Bi mi di,.slice (some ⟨w1.heap.size+1,0,none⟩) 0 0,.slice Bn mn dn,.slice Bc mc dc,.slice Bl ml dl,v.code,v.env] 38)).alloc (.cells #[] 38)).alloc (.cells #[] 3)):=(((Below.refl _ _).alloc (af _) _).alloc dR _).alloc eA _;have k5:Blk (((w1.alloc (.cells #[v.kind,.slice Bi mi di,.slice (some ⟨w1.heap.size+1,0,none⟩) 0 0,.slice Bn mn dn,.slice Bc mc dc,.slice Bl ml dl,v.code,v.env] 38)).alloc (.cells #[] 38)).alloc (.cells #[] 3)) w1.heap.size 38 [v.kind,.slice Bi mi di,.slice (some ⟨w1.heap.size+1,0,none⟩) 0 0,.slice Bn mn dn,.slice Bc mc dc,.slice Bl ml dl,v.code,v.env]:=((Blk.new' (l:=[.int .i64 v.kind,.slice Bi mi di,.slice (some ⟨w1.heap.size+1,0,none⟩) 0 0,.slice Bn mn dn,.slice Bc mc dc,.slice Bl ml dl,.int .i64 v.code,.int .i64 v.env])).al).al;have oe:own prog (((w1.alloc (.cells #[v.kind,.slice Bi mi di,.slice (some ⟨w1.heap.size+1,0,none⟩) 0 0,.slice Bn mn dn,.slice Bc mc dc,.slice Bl ml dl,v.code,v.env] 38)).alloc (.cells #[] 38)).alloc (.cells #[] 3)) (.sl []) 36 [w1.heap.size+1] [.slice (some ⟨w1.heap.size+1,0,none⟩) 0 0]:=by have:=fK (o:= .cells #[] 3) (rW (w:=w1.alloc (.cells #[v.kind,.slice Bi mi di,.slice (some ⟨w1.heap.size+1,0,none⟩) 0 0,.slice Bn mn dn,.slice Bc mc dc,.slice Bl ml dl,v.code,v.env] 38)) (e:=38) underlying36);simpa only[dT]using this
 have oi:own prog (((w1.alloc (.cells #[v.kind,.slice Bi mi di,.slice (some ⟨w1.heap.size+1,0,none⟩) 0 0,.slice Bn mn dn,.slice Bc mc dc,.slice Bl ml dl,v.code,v.env] 38)).alloc (.cells #[] 38)).alloc (.cells #[] 3)) (.sl []) 26 [w1.heap.size+1+1] [.slice (some ⟨w1.heap.size+1+1,0,none⟩) 0 0]:=by have:=rW (w:=(w1.alloc (.cells #[v.kind,.slice Bi mi di,.slice (some ⟨w1.heap.size+1,0,none⟩) 0 0,.slice Bn mn dn,.slice Bc mc dc,.slice Bl ml dl,v.code,v.env] 38)).alloc (.cells #[] 38)) (e:=3) underlying26;simpa only[dT]using this
 have ov:own prog (((w1.alloc (.cells #[v.kind,.slice Bi mi di,.slice (some ⟨w1.heap.size+1,0,none⟩) 0 0,.slice Bn mn dn,.slice Bc mc dc,.slice Bl ml dl,v.code,v.env] 38)).alloc (.cells #[] 38)).alloc (.cells #[] 3)) (noParts v).toD 38 _ [v.kind,.slice Bi mi di,.slice (some ⟨w1.heap.size+1,0,none⟩) 0 0,.slice Bn mn dn,.slice Bc mc dc,.slice Bl ml dl,v.code,v.env]:=jD (x:=noParts v) wk (em p1 xb) oe (em p3 xb) (em p4 xb) (em p5 xb) wc we;have zW:W.heap.size=w1.heap.size+1+1+1:=by rw[hW];simp only[dT]
 have hIl:∀y∈I1++(I2++(I3++(I4++(I5++[])))),y<w1.heap.size:=gC o1;have hIn:w1.heap.size+1 ∉ I1++(I2++(I3++(I4++(I5++[])))):=λhm=>by have:=hIl _ hm;omega
 obtain⟨G,hG⟩:∃G,G=I1++([w1.heap.size+1]++(I3++(I4++(I5++[])))):=⟨_,rfl⟩;rw[<-hG]at ov;have hGn:G.Nodup:=by rw[hG];exact ub AP.1 dR (λy hy=>by simp only[List.mem_singleton]at hy;subst hy;exact .inr hIn)
 have hGf:∀y∈G,w.heap.size+1<=y:=λy hy=>by
  rw[hG]at hy;rcases aG.1 hy with hy|hy
  ·exact AP.2 y eK
  ·rcases aG.1 hy with hy|hy
   ·simp at hy;omega
   ·exact AP.2 y qj
 have hGl:∀y∈G,y<w1.heap.size+1+1:=λy hy=>by
  rw[hG]at hy;rcases aG.1 hy with hy|hy
  ·have:=hIl y eK;omega
  ·rcases aG.1 hy with hy|hy
   ·simp at hy;omega
   ·have:=hIl y qj;omega
 have hGb:w1.heap.size ∉ G:=λhm=>by
  rw[hG]at hm;rcases aG.1 hm with hm|hm
  ·have:=hIl _ (bJ _ hm);omega
  ·rcases aG.1 hm with hm|hm
   ·simp at hm
   ·have:=hIl w1.heap.size (by simp at hm;simp [hm]);omega
 have H1:=(H0.next hb1).next xb;have k3':=k31.next xb;have mm:=gU (gU (gU (F:=g::F) Mod.refl x0) hb1) xb;have XR:=H.lo;clear a0 a1 a2 a3 a4 a5 a6 a7 o1 p1 p2 p3 p4 p5 hIl hIn hG AP k31 oe;obtain⟨bW,hbW⟩:∃bW,bW=w1.heap.size:=⟨_,rfl⟩;have uK:w.heap.size+1<=bW:=dP;rw[<-hW]at k5 oi ov H1 k3' mm ⊢;rw[<-hbW]at k5 oi ov zW hGl hGb ⊢;clear hW hbW xb hb1 H0 k3 x0 z1 hw1;go_loopw [6,7] (λpt i wr=>∃(j:Nat) (F':List Nat) (Aq:Option Addr) (cq:Nat) (Fq:List Nat),j<=np/\i= .int .i64 j/\pt= .slice Aq j cq/\HB wr g ((v.parts.take j).foldl (js (fL f)) (h,[])).1 F'/\Sub w.heap.size F F'/\Blk wr w.heap.size 38 [v.kind,.slice Ai ni ci,.slice Ap np cp,.slice An nn cn,.slice Ac nc cc,.slice Al nl cl,v.code,v.env]/\Blk wr bW 38 [v.kind,.slice Bi mi di,.slice (some ⟨bW+1,0,none⟩) 0 0,.slice Bn mn dn,.slice Bc mc dc,.slice Bl ml dl,v.code,v.env]/\own prog wr (noParts v).toD 38 G [v.kind,.slice Bi mi di,.slice (some ⟨bW+1,0,none⟩) 0 0,.slice Bn mn dn,.slice Bc mc dc,.slice Bl ml dl,v.code,v.env]/\
  own prog wr (.sl (((v.parts.take j).foldl (js (fL f)) (h,[])).2.map (D.i .i64))) 26 Fq [.slice Aq j cq]/\Fresh (bW+1+1) Fq/\(∀y∈w.heap.size::bW::(G++Fq),y ∉ g::F')/\Mod (g::F) w wr) (λ_ i _=>np - (intOf i).toNat)
 case atStart=>exact⟨0,F,some ⟨bW+1+1,0,none⟩,0,[bW+1+1],by omega,rfl,rfl,H1,Sub.refl,k3',k5,ov,oi,⟨by simp,by simp⟩,λy hy hm=>by(have h1:=XR y hm;have h2:w.heap.size<=y:=by(rcases aX.1 hy with e|hy;omega;rcases aX.1 hy with e|hy;omega;rcases aG.1 hy with hy|hy;(have:=hGf y hy;omega);(simp at hy;omega)));omega,mm⟩
 case round=>
  clear H1 k3' k5 ov oi mm zW;obtain⟨j,F',Aq,cq,Fq,hj,rfl,rfl,Hj,sj,k3,k5,ov,oq,qL,Bw,mj⟩:=hrel;have bw:Below B w wr:=mj.below hBF hB;have ZS:=gC oq;have lov:=gC ov;have hW1:w.heap.size<wr.heap.size:=k3.lt;have hW2:bW<wr.heap.size:=k5.lt;have hBr:B<=wr.heap.size:=dP;obtain⟨a0,a1,a2,a3,a4,a5,a6,a7⟩:=k3.c8;by_cases hlj:j<np
  ·obtain⟨b,off,p,Ei,ui,vi,Ep,up,vp,En,un,vn,Ec,uc,vc,El,ul,vl,rfl,gD,hx,fE,e0,e1,e2,e3,e4,e5,e6,e7⟩:=my (fF rp bw) hlj;have HX:=aa hx;have ad2:okD 3 p=true:=by obtain⟨d',hd,Ya⟩:=(n7 HV.out).1 p (aA hx);obtain rfl:d'=2:=dP;exact Ew Ya
   have HOX:=aa ad2;have WY:=aa (vL OR.out hx);have XS:∀y∈w.heap.size::bW::(G++Fq),y<wr.heap.size:=λy hy=>by
    rcases aX.1 hy with e|hy
    ·omega
    ·rcases aX.1 hy with e|hy
     ·omega
     ·rcases aG.1 hy with hy|hy
      ·exact lov y hy
      ·exact ZS y hy
   have Xv:∀y∈g::F',B<=y:=λy hy=>by
    rcases kj (g:=g) sj y hy with h1|h1
    ·exact hBF y h1
    ·omega
   have XN:=Hj.lo;clear hx ad2;go_wp2_with (first
    |(go_at_call 51;refine(xo.out _ p g F' B _ wr Hj fE hBr Xv WY.out HOX.out).mono ?_;rintro e w3 ⟨rfl,X8,F3,H3,s3,m3⟩;have z3:=m3.size;obtain⟨q,hq⟩:∃q:Int,q=(fL f ((v.parts.take j).foldl (js (fL f)) (h,[])).1 p).2:=⟨_,rfl⟩;rw[<-hq]at X8 ⊢;have HQ:=aa hq;clear hq;have zJ:=AG Bw XS s3;have CC:=Blk.mod (g:=w.heap.size) k3 m3 (Bw _ dR);have UZ:=Blk.mod (g:=bW) k5 m3 (Bw _ dR);have ZY:=fH oq m3 (λy hy=>Bw y eK);have ov3:=fH ov m3 (λy hy=>Bw y eK);have x4:Below w3.heap.size w3 (w3.alloc (.cells #[q] 3)):=(Below.refl _ _).alloc (af _) _;have kn4:Blk (w3.alloc (.cells #[q] 3)) w3.heap.size 3 [q]:=Blk.new' (l:=[.int .i64 q]))
    |(at_builtin;refine n8 (xs:=((v.parts.take j).foldl (js (fL f)) (h,[])).2.map (D.i .i64)) (F:=Fq) (d:=D.i .i64 q) (F':=[]) (b:=w3.heap.size) (m:=1) (te:=3) (cs:=[.int .i64 q]) Kh dU rfl _ _ rfl rfl (em ZY x4) rfl kn4 (by rw[own];exact⟨rfl,rfl,X8⟩) rfl (by rw[bP];exact qL.1) eb dP ?_;intro gg gc w5 F5 o5 ap5 md5))
   simp only[dT]at ap5;have hFG:∀y∈G,y ∉ Fq:=λy hy hm=>by have h1:=hGl y hy;have h2:=qL.2 y hm;omega
   go_roundw
   case rel=>
    refine⟨j+1,F3,some ⟨gg,0,none⟩,gc,F5,by omega,by go_num,rfl,?_,sj.trans s3 dP,Blk.mod (g:=w.heap.size) (CC.next x4) md5 (qL.notin dP),Blk.mod (g:=bW) (UZ.next x4) md5 (qL.notin dP),fH (em ov3 x4) md5 hFG,?_,⟨ap5.1,λy hy=>?_⟩,λy hy hm=>?_,?_⟩
    ·rw[qC HX.out];exact(H3.next x4).mod md5 (λy hy hm=>zJ y eV hy)
    ·rw[qC HX.out];show own prog _ (.sl ((((v.parts.take j).foldl (js (fL f)) (h,[])).2++[(fL f ((v.parts.take j).foldl (js (fL f)) (h,[])).1 p).2]).map (D.i .i64))) _ _ _;rw[<-HQ.out,aI];exact o5
    ·rcases ap5.2 y hy with h1|h1|h1
     ·exact qL.2 y h1
     ·simp at h1
     ·omega
    ·have ahv:=H3.lo y hm;rcases aX.1 hy with e|hy
     ·exact zJ y mr hm
     ·rcases aX.1 hy with e|hy
      ·exact zJ y mr hm
      ·rcases aG.1 hy with hy|hy
       ·exact zJ y eK hm
       ·rcases ap5.2 y hy with h1|h1|h1
        ·exact zJ y kw hm
        ·simp at h1
        ·omega
    ·exact Mod.trans (gU (nO mj m3 (kj sj) (af _)) x4) md5 (λy hy=> .inr (by have:=qL.2 y hy;omega))
   case measure=>simp [intOf];omega
  ·obtain rfl:j=np:=dP;rw[aC wu]at Hj oq;obtain⟨b0,b1,b2,b3,b4,b5,b6,b7⟩:=k5.c8;have oc:own prog wr (Cel.toD ⟨0,noParts v,(v.parts.foldl (js (fL f)) (h,[])).2⟩) 43 (G++(Fq++[])) _:=uO (kP.2 dR) ov oq;have hGd:∀y∈G++(Fq++[]),y ∉ g::F':=λy hy=>Bw y qj;have agY:(G++(Fq++[])).Nodup:=by rw[bP];exact aE.2 ⟨hGn,qL.1,λa ha b hb e=>by have h1:=hGl a ha;have h2:=qL.2 b hb;omega⟩
   go_wp2_with fail;refine(Eb _ _ g F' _ _ _ Hj oc hGd agY K9).mono ?_;rintro e w6 ⟨rfl,F6,H6,s6,m6⟩;go_wp2_with fail;go_ret;have hpd:fL (f+1) h v=gH (v.parts.foldl (js (fL f)) (h,[])).1 ⟨1,noParts v,(v.parts.foldl (js (fL f)) (h,[])).2⟩:=by rw[fL]
   rw[hpd];refine⟨rfl,E6 K9,F6,H6,λy hy=>?_,?_⟩
   ·rcases s6 y hy with h1|h1|h1
    ·exact sj y h1
    ·rcases aG.1 h1 with h1|h1
     ·have:=hGf y h1;exact .inr dP
     ·have:=qL.2 y mt;exact .inr dP
    ·exact .inr dP
   ·exact nO mj m6 (kj sj) (af _)
end Go.Proofs.YtekcpadlmfaihaaGreat
