/- A box that holds a heap of one's own: opened, shut, one cell taken out and another put in its place. -/
import Derived.Test.YtekcpadlmfaihaaGreatYM
import Derived.Test.YtekcpadlmfaihaaGreatYG
import Derived.Deep.DrawnRows
namespace Go.Proofs.YtekcpadlmfaihaaGreat
open Go.RowKit Proofs.Tryz
set_option maxHeartbeats 8000000
set_option maxRecDepth 100000
set_option linter.unusedSimpArgs false
set_option linter.unusedVariables false
variable {h:Hp} {y:Int} {F F' G X Y Y' Z:List Nat} {post pre r:List Value} {B C cc cn cs g m nc nn ns:Nat} {Ac An As:Option Addr} {P:Program} {t t':TypeId} {a b c d e f i j k:Value} {w w' w2:World}
def Sub (B:Nat) (F F':List Nat):Prop:=∀x∈F',x∈F\/B<=x
theorem Sub.refl:Sub B F F:=λ_ h=> .inl h
theorem Sub.trans {yX:List Nat} (h:Sub B F F') (h':Sub C F' yX) (hB:B<=C):Sub B F yX:=λx hx=>by
 rcases h' x hx with h1|h1
 ·exact h x h1
 ·exact .inr dP
theorem Sub.mono (h:Sub B F F') (hG:∀x∈F,x∈G):Sub B G F':=λx hx=>by
 rcases h x hx with h1|h1
 ·exact .inl (hG x h1)
 ·exact .inr h1
theorem Sub.low (h:Sub C F F') (hB:B<=C):Sub B F F':=λx hx=>by
 rcases h x hx with h1|h1
 ·exact .inl h1
 ·exact .inr dP
theorem ub (h:(X++(Y++Z)).Nodup) (hY:Y'.Nodup) (hs:∀y∈Y',y∈Y\/y ∉ X++(Y++Z)):(X++(Y'++Z)).Nodup:=by
 obtain⟨n1,n2,n3⟩:=aE.1 h;obtain⟨n4,n5,n6⟩:=aE.1 n2;refine aE.2 ⟨n1,aE.2 ⟨hY,n5,λa ha b hb e=>?_⟩,λa ha b hb e=>?_⟩
 ·subst e;rcases hs a ha with h1|h1
  ·exact n6 a h1 a hb rfl
  ·exact h1 (by simp [hb])
 ·subst e;rcases aG.1 hb with hb|hb
  ·rcases hs a hb with h1|h1
   ·exact n3 a ha a kw rfl
   ·exact h1 (by simp [ha])
  ·exact n3 a ha a (by simp [hb]) rfl
def Repl (F Y Y' F':List Nat):Prop:=∀x∈F',x∈Y'\/(x∈F/\x ∉ Y)
theorem Repl.sub (h:Repl F Y Y' F') (hY:Sub B F Y'):Sub B F F':=λx hx=>by
 rcases h x hx with h1|h1
 ·exact hY x h1
 ·exact .inl h1.1
theorem VO (h:(X++(Y++Z)).Nodup):Repl (X++(Y++Z)) Y Y' (X++(Y'++Z)):=λx hx=>by
 obtain⟨n1,n2,n3⟩:=aE.1 h;obtain⟨n4,n5,n6⟩:=aE.1 n2;rcases aG.1 hx with hx|hx
 ·exact .inr ⟨by simp [hx],λhy=>n3 x hx x eK rfl⟩
 ·rcases aG.1 hx with hx|hx
  ·exact .inl hx
  ·exact .inr ⟨by simp [hx],λhy=>n6 x hy x hx rfl⟩
theorem nO (h:Mod F w w') (k:Mod G w' w2) (s:Sub B F G) (hB:w.heap.size<=B):Mod F w w2:=h.trans k (λx hx=>by
 rcases s x hx with h1|h1
 ·exact .inl h1
 ·exact .inr dP)
theorem kj (s:Sub B F G):Sub B (g::F) (g::G):=λx hx=>by
 rcases aX.1 hx with e|hx
 ·exact .inl mr
 ·rcases s x hx with h1|h1
  ·exact .inl kw
  ·exact .inr h1
section
variable {P:Program} {w:World}
theorem NF:∀{l:List D} {e:TypeId} {F:List Nat} {css:List (List Value)} {k:Nat} {d:D},iv P w l e F css->l[k]?=some d->
 ∃Fa Fd Fb cs,css[k]?=some cs/\F=Fa++(Fd++Fb)/\own P w d e Fd cs/\∀(w':World) (d':D) (cs':List Value) (Rz:List Nat),own P w' d' e Rz cs'->(∀x∈Fa++Fb,w'.heap[x]?=w.heap[x]?)->iv P w' (l.set k d') e (Fa++(Rz++Fb)) (css.set k cs')
 |[],_,_,_,_,_,_,h=>by simp at h
 |x::t,e,F,css,k,d,ho,h=>by
  rw[iv]at ho;obtain⟨F1,F2,c1,c2,rfl,rfl,h3,h4⟩:=ho;cases k with
  |zero=>
   simp at h;subst h;refine⟨[],F1,F2,c1,rfl,rfl,h3,λw' d' cs' Rz h5 h6=>?_⟩;rw[a_,a_,iv];exact⟨Rz,F2,cs',c2,rfl,rfl,h5,mI t e F2 c2 (λg hg=>h6 g (by simpa using hg)) h4⟩
  |succ k=>
   simp at h;obtain⟨Fa,Fd,Fb,cs,k1,rfl,k3,k4⟩:=NF h4 h;refine⟨F1++Fa,Fd,Fb,cs,by simpa using k1,by simp,k3,λw' d' cs' Rz h5 h6=>?_⟩;rw[be,be,iv];exact⟨F1,Fa++(Rz++Fb),c1,c2.set k cs',by simp,rfl,nJ x e F1 c1 (λg hg=>h6 g fe) h3,k4 w' d' cs' Rz h5 (λg hg=>h6 g (by
    rcases aG.1 hg with hg|hg
    ·simp [hg]
    ·simp [hg]))⟩
theorem ta {xs:List D} {t e:TypeId} {F:List Nat} {A:Option Addr} {n c k:Nat} {d:D} (ht:P.underlying t=some (.slice e)) (h:own P w (.sl xs) t F [.slice A n c]) (hk:xs[k]?=some d):
 ∃g Fa Fd Fb cs pre post,A=some ⟨g,0,none⟩/\F=g::(Fa++(Fd++Fb))/\own P w d e Fd cs/\pre.length=k*cs.length/\Blk w g e (pre++(cs++post))/\
  ∀(w':World) (d':D) (cs':List Value) (Rz:List Nat),cs'.length=cs.length->own P w' d' e Rz cs'->Blk w' g e (pre++(cs'++post))->(∀x∈Fa++Fb,w'.heap[x]?=w.heap[x]?)->own P w' (.sl (xs.set k d')) t (g::(Fa++(Rz++Fb))) [.slice A n c]:=by
 rw[own]at h;obtain⟨e',A',n',c',s,fB,F2,h1,h2,h3,hm,h4,rfl,h6⟩:=h;obtain rfl:e=e':=by rw[ht]at h1;injection h1 with h1;injection h1
 injection h3 with h3;injection h3 with e1 e2 e3;subst e1 e2 e3
 obtain⟨Fa,Fd,Fb,cs,k1,rfl,k3,k4⟩:=NF h6 hk;have gK:=zY h6;have hn:=h4.1;rcases h4.2.2 with ⟨h0,h00⟩|⟨g,cap,pq,h0,hg,hh,hc,hmm,hz,hr⟩
 ·exfalso;have:=(ay.1 hk).1;rw[au]at gK;omega
 injection h0 with h0 _ h01;subst h0 h01;rw[cg]at k1;cases QS:fB[k]? with
 |none=>simp [QS]at k1
 |some r=>
 simp [QS]at k1;subst k1;have hs:r.v.length=s:=Row.len r;have WA:k<fB.length:=(ay.1 QS).1;have e4:fB=fB.take k++(r::fB.drop (k+1)):=by
  rw[aw WA]at QS;injection QS with QS
  rw[<-QS,<-cR WA,cA]
 have lp:((fB.take k).flatMap Row.v).length=k*s:=by rw[gN Row.len,de];congr 1;omega
 have ec:pq.toList=(fB.take k).flatMap Row.v++(r.v++((fB.drop (k+1)).flatMap Row.v++pq.toList.drop (n*s))):=by
  conv=>lhs;rw[<-cA (n*s) pq.toList,hr,e4]
  simp
 refine⟨g,Fa,Fd,Fb,r.v,(fB.take k).flatMap Row.v,(fB.drop (k+1)).flatMap Row.v++pq.toList.drop (n*s),rfl,rfl,k3,by rw[hs];exact lp,?_,?_⟩
 ·unfold Blk;rw[<-ec];exact hh
 intro w' d' cs' Rz q1 q2 q3 q4;rw[own];have JC:cs'.length=s:=by rw[q1,hs]
 have e5:(fB.set k ⟨cs',JC⟩).map Row.v=(fB.map Row.v).set k cs':=by rw[dH]
 have e6:(fB.set k ⟨cs',JC⟩).flatMap Row.v=(fB.take k).flatMap Row.v++(cs'++(fB.drop (k+1)).flatMap Row.v):=by
  have:fB.set k (⟨cs',JC⟩:Row s)=fB.take k++((⟨cs',JC⟩:Row s)::fB.drop (k+1)):=List.set_eq_take_append_cons_drop .. |>.trans (by rw[aN WA])
  rw[this];simp
 refine⟨e,_,n,c,s,fB.set k ⟨cs',JC⟩,Fa++(Rz++Fb),ht,h2,rfl,hm,⟨by rw[da];exact hn,by rw[gN Row.len,da,hn],.inr ⟨g,c,((fB.take k).flatMap Row.v++(cs'++((fB.drop (k+1)).flatMap Row.v++pq.toList.drop (n*s)))).toArray,rfl,hg,q3,hc,hmm,?_,?_⟩⟩,rfl,?_⟩
 ·have h7:pq.toList.length=c*s:=by rw[Array.length_toList];exact hz
  rw[ec]at h7;simp only[List.size_toArray,aY]at h7 ⊢;rw[hs]at h7;rw[JC];exact h7
 ·exact GO
 ·rw[e5];exact k4 w' d' cs' Rz q2 q4
end
def HB (w:World) (g:Nat) (h:Hp) (F:List Nat):Prop:=∃cs,Blk w g 28 cs/\own prog w h.toD 28 F cs/\(g::F).Nodup
theorem HB.lt {w:World} {g:Nat} {h:Hp} {F:List Nat} (H:HB w g h F):g<w.heap.size:=by obtain⟨cs,k,_⟩:=H;exact k.lt
theorem HB.lo (H:HB w g h F):Lo w.heap.size (g::F):=by obtain⟨cs,k,o,_⟩:=H;exact Lo.cons k.lt (gC o)
theorem HB.nd (H:HB w g h F):(g::F).Nodup:=by obtain⟨cs,k,o,n⟩:=H;exact n
theorem HB.mod {w w':World} {g:Nat} {h:Hp} {F G:List Nat} (H:HB w g h F) (hm:Mod G w w') (hd:∀x∈g::F,x ∉ G):HB w' g h F:=by obtain⟨cs,k,o,n⟩:=H;exact⟨cs,Blk.mod (g:=g) k hm (hd g aT),fH o hm (λx hx=>hd x (aP _ hx)),n⟩
theorem HB.next (H:HB w g h F) (hb:Below w.heap.size w w'):HB w' g h F:=H.mod (Mod.of_below (F:=[]) hb) dR
theorem HB.dw (H:HB w g h F):HB w.drew g h F:=H.next (Below.refl _ _).drew
theorem HB.al {o:Obj} (H:HB w g h F):HB (w.alloc o) g h F:=H.next ((Below.refl _ _).alloc (af _) _)
theorem HB.pk {p:Addr} {u:Value} (H:HB w g h F) (hp:p.block ∉ g::F):HB (w.setCell p u) g h F:=
 H.mod (Mod.poke (F:=[p.block]) dR u) (λx hx hm=>hp (by simp at hm;subst hm;exact hx))
abbrev px (h:Hp) (Ac:Option Addr) (nc cc:Nat) (An:Option Addr) (nn cn:Nat) (As:Option Addr) (ns cs:Nat):List Value:=[.slice Ac nc cc,.slice An nn cn,.slice As ns cs,.int .i64 h.copies]
theorem HB.open_ (H:HB w g h F):∃(Ac:Option Addr) (nc cc:Nat) (An:Option Addr) (nn cn:Nat) (As:Option Addr) (ns cs:Nat) (Fc Fn Fs:List Nat),
 Blk w g 28 (px h Ac nc cc An nn cn As ns cs)/\F=Fc++(Fn++(Fs++[]))/\own prog w (.sl (h.cells.map Cel.toD)) 24 Fc [.slice Ac nc cc]/\own prog w (.sl (h.names.map D.s)) 25 Fn [.slice An nn cn]/\own prog w (.sl (h.slots.map (D.i .i64))) 26 Fs [.slice As ns cs]/\(Lit.int .i64 h.copies).wf=true:=by
 obtain⟨cs,k,o,n⟩:=H;obtain⟨A1,n1,c1,A2,n2,c2,A3,n3,c3,F1,F2,F3,rfl,rfl,o1,o2,o3⟩:=tC o;obtain⟨_,_,_,_,_,_,_,_,_,_,_,_,_,wf⟩:=iP (eW _ _ _ _ o);exact⟨A1,n1,c1,A2,n2,c2,A3,n3,c3,F1,F2,F3,k,rfl,o1,o2,o3,wf⟩
theorem HB.shut {Fc Fn Fs:List Nat} (k:Blk w g 28 (px h Ac nc cc An nn cn As ns cs)) (o1:own prog w (.sl (h.cells.map Cel.toD)) 24 Fc [.slice Ac nc cc]) (o2:own prog w (.sl (h.names.map D.s)) 25 Fn [.slice An nn cn]) (o3:own prog w (.sl (h.slots.map (D.i .i64))) 26 Fs [.slice As ns cs]) (wf:(Lit.int .i64 h.copies).wf=true) (n:(g::(Fc++(Fn++(Fs++[])))).Nodup):HB w g h (Fc++(Fn++(Fs++[]))):=
 ⟨_,k,Da o1 o2 o3 wf,n⟩
theorem HB.rep {w:World} {g:Nat} {h:Hp} {F:List Nat} (H:HB w g h F):∃cs,Blk w g 28 cs/\rep w w.heap.size h.toD cs:=by obtain⟨cs,k,o,n⟩:=H;exact⟨cs,k,eW _ _ _ _ o⟩
abbrev eG (h:Hp) (k:Nat) (x:Cel):Hp:={h with cells:=h.cells.set k x}
abbrev nR (x:Cel) (Ai:Option Addr) (ni ci:Nat) (Ap:Option Addr) (np cp:Nat) (An:Option Addr) (nn cn:Nat) (Ac:Option Addr) (nc cc:Nat) (Al:Option Addr) (nl cl:Nat) (Aq:Option Addr) (nq cq:Nat):List Value:=
 [x.count,x.value.kind,.slice Ai ni ci,.slice Ap np cp,.slice An nn cn,.slice Ac nc cc,.slice Al nl cl,x.value.code,x.value.env,.slice Aq nq cq]
theorem HB.cell_ (H:HB w g h F) {k:Nat} {x:Cel} (hk:h.cells[k]?=some x):
 ∃(bc nc cc:Nat) (An:Option Addr) (nn cn:Nat) (As:Option Addr) (ns cs:Nat) (Fx:List Nat) (cx pre post:List Value),
  Blk w g 28 (px h (some ⟨bc,0,none⟩) nc cc An nn cn As ns cs)/\h.cells.length=nc/\nc<=maxLen/\own prog w x.toD 43 Fx cx/\Fx.Nodup/\cx.length=10/\pre.length=k*10/\Blk w bc 43 (pre++(cx++post))/\bc∈F/\bc ∉ Fx/\(∀y∈Fx,y∈F)/\g≠bc/\
  ∀(w':World) (x':Cel) (cx':List Value) (Y8:List Nat),cx'.length=10->own prog w' x'.toD 43 Y8 cx'->Y8.Nodup->(∀y∈Y8,y∈Fx\/y ∉ g::F)->Blk w' bc 43 (pre++(cx'++post))->Mod (bc::Fx) w w'->∃F',HB w' g (eG h k x') F'/\Repl F Fx Y8 F':=by
 have XR:=H.lo;have sM:=H.nd;obtain⟨Ac,nc,cc,An,nn,cn,As,ns,cs,Fc,Fn,Fs,kB,rfl,o1,o2,o3,wf⟩:=H.open_;have hl:=ef (eW _ _ _ _ o1);rw[au]at hl;obtain⟨bc,Fa,Fx,Fb,cx,pre,post,rfl,rfl,ox,hp,hB,hw⟩:=ta underlying24 o1 (show (h.cells.map Cel.toD)[k]?=some x.toD by rw[cg,hk];rfl);have Zw:cx.length=10:=by obtain⟨_,_,_,_,_,_,_,_,_,_,_,_,_,_,_,_,_,_,_,_,_,_,_,_,rfl,_⟩:=jp ox;rfl
 rw[Zw]at hp;have Pv:=(aQ.1 sM).2;have hg:=(aQ.1 sM).1;have e0:bc::(Fa++(Fx++Fb))++(Fn++(Fs++[]))=(bc::Fa)++(Fx++(Fb++(Fn++(Fs++[])))):=dR;rw[e0]at Pv;have Ix:=aE.1 Pv;have hny:=aE.1 Ix.2.1;refine⟨bc,nc,cc,An,nn,cn,As,ns,cs,Fx,cx,pre,post,kB,hl.1,by omega,ox,hny.1,Zw,hp,hB,by simp,λhm=>Ix.2.2 bc dR bc eV rfl,λy hy=>by simp [hy],λe=>hg mr,?_⟩;intro w' x' cx' Y8 q1 q2 q3 q4 q5 q6;have dis:∀y∈Fa++(Fb++(Fn++(Fs++[]))),y ∉ bc::Fx:=by
  intro y hy hm;rcases aX.1 hm with e|hm
  ·subst e;rcases aG.1 hy with hy|hy
   ·exact(aQ.1 Ix.1).1 hy
   ·exact Ix.2.2 y dR y qj rfl
  ·rcases aG.1 hy with hy|hy
   ·exact Ix.2.2 y eK y eV rfl
   ·exact hny.2.2 y hm y hy rfl
 have hlt:∀y∈Fa++Fb,y<w.heap.size:=λy hy=>XR y (by rcases aG.1 hy with hy|hy<;>simp [hy]);have o1':=hw w' x'.toD cx' Y8 (by rw[q1,Zw]) q2 q5 (λy hy=>q6.2.2 y (hlt y hy) (dis y (by rcases aG.1 hy with hy|hy<;>simp [hy])));rw[<-dH]at o1';have IG:=Blk.mod (g:=g) kB q6 (λhm=>hg (by rcases aX.1 hm with e|hm;simp [e];simp [hm]));have PP:=fH o2 q6 (λy hy=>dis y eK);have Vq:=fH o3 q6 (λy hy=>dis y eK);have ahA:((g::bc::Fa)++(Fx++(Fb++(Fn++(Fs++[]))))).Nodup:=aQ.2 ⟨λhm=>hg (by rw[e0];exact hm),Pv⟩;have hnd3:=ub (X:=g::bc::Fa) (Y:=Fx) (Z:=Fb++(Fn++(Fs++[]))) (Y':=Y8) ahA q3 (λy hy=>by
  rcases q4 y hy with h1|h1
  ·exact .inl h1
  ·exact .inr (λhm=>h1 (by simpa [or_assoc]using hm)))
 refine⟨_,HB.shut (h:=eG h k x') IG o1' PP Vq wf (by simpa using hnd3),?_⟩;have:=VO (X:=bc::Fa) (Y:=Fx) (Z:=Fb++(Fn++(Fs++[]))) (Y':=Y8) Pv;intro y hy;have:=this y (by simpa using hy);rw[e0];exact this
attribute [local go_sem ↓] Go.wp_at_zero Go.wp_at_succ
def zV:List Value:=[.int .i64 0,.slice none 0 0,.slice none 0 0,.slice none 0 0,.slice none 0 0,.slice none 0 0,.int .i64 0,.int .i64 0]
theorem Dg {v y:Vec} {ps:List Vec}{wr w3:World} {lK:List Value}{np k co gg:Nat} {Ao A1 A2 A3 A4:Option Addr} {n1 c1 n2 c2 n3 c3 n4 c4:Nat} {F1 F2 F3 F4 FP G1 Ku:List Nat} {ob:List Value}
 (hk:k<np) (HY:ps.take (k+1)=ps.take k++[y])
 (kg:Blk wr g 38 [v.kind,.slice A1 n1 c1,.slice Ao k co,.slice A2 n2 c2,.slice A3 n3 c3,.slice A4 n4 c4,v.code,v.env]) (kH:Blk wr w.heap.size 28 lK)
 (oP:own prog wr (.sl ((ps.take k).map Vec.toD)) 36 FP [.slice Ao k co])
 (o1:own prog wr (.sl (v.items.map Item.toD)) 35 F1 [.slice A1 n1 c1]) (o2:own prog wr (.sl (v.names.map .s)) 25 F2 [.slice A2 n2 c2]) (o3:own prog wr (.sl (v.cls.map .s)) 25 F3 [.slice A3 n3 c3]) (o4:own prog wr (.sl (v.levels.map .s)) 25 F4 [.slice A4 n4 c4])
 (fr:Fresh (w.heap.size+2) (FP++(g::(F1++(F2++(F3++F4)))))) (bb:Below w.heap.size w wr) (kR:Blk wr (w.heap.size+1) 38 zV) (XK:g<wr.heap.size) (hwr:w.heap.size+1<wr.heap.size)
 (hb:Below wr.drew.heap.size wr.drew w2) (hG:Fresh wr.heap.size G1) (ap:AppF (w2.heap.size+1) FP G1 Ku) (md:Mod FP (w2.alloc (.cells ob.toArray 38)) w3)
 (TG:own prog w3 (.sl ((ps.take k).map Vec.toD++[y.toD])) 36 Ku [.slice (some ⟨gg,0,none⟩) (k+1) cc]):
 asL v ps h w w (w.heap.size+2) lK np g A1 n1 c1 A2 n2 c2 A3 n3 c3 A4 n4 c4 F1 F2 F3 F4 (.int .i64 ((k:Int)+1)) (w3.setCell ⟨g,2,none⟩ (.slice (some ⟨gg,0,none⟩) (k+1) cc))/\Blk (w3.setCell ⟨g,2,none⟩ (.slice (some ⟨gg,0,none⟩) (k+1) cc)) (w.heap.size+1) 38 zV:=by
 have lP:=gC oP;have LL:=lP.app (Lo.cons XK ((gC o1).app ((gC o2).app ((gC o3).app (gC o4)))));have Iq:=fr.left;have dg:=fr.dis g aT;have hgB:=fr.right.2 g aT;have ZV:=(aQ.1 fr.right.1).1;simp only[aG,not_or]at ZV;obtain⟨N1,N2,N3,N4⟩:=ZV;have z2:=hb.size;have z3:=md.size;simp only[dT,dW]at z2 z3;have jb:Below wr.heap.size wr (w2.alloc (.cells ob.toArray 38)):=gT ((Below.refl wr.heap.size wr).drew.trans hb) z2;have ng:g ∉ Ku:=ap.notin dg hG.2 XK dP;have cp:∀{d:D} {t:TypeId} {F:List Nat} {cs:List Value},own prog wr d t F cs->(∀y∈F,y ∉ FP)->g ∉ F->own prog (w3.setCell ⟨g,2,none⟩ (.slice (some ⟨gg,0,none⟩) (k+1) cc)) d t F cs:=λo hd hn=>ft (fH (em o jb) md hd) hn;refine⟨⟨k+1,some ⟨gg,0,none⟩,cc,Ku,by omega,by go_num,?_,?_,?_,cp o1 (λy hy=>fr.dis y eK) N1,cp o2 (λy hy=>fr.dis y eK) N2,cp o3 (λy hy=>fr.dis y eK) N3,cp o4 (λy hy=>fr.dis y eK) N4,?_,?_⟩,?_⟩
 ·exact((kg.next jb).mod md dg).set_ 2 _
 ·exact((kH.next jb).mod md (Iq.notin dP)).pk ig
 ·rw[HY,aI,br,bL];exact ft TG ng
 ·exact Fresh.repl fr LL dP hG.2 dP ap
 ·exact ie (jN (bb.trans (jb.mono bb.size)) md (λy hy=>by have:=Iq.2 y hy;omega) eA) ig
 ·exact((kR.next jb).mod md (Iq.notin dP)).pk ig
def ldP (h:Hp) (d:Nat):Prop:=∀(k:Int) (cs:List Value) (w:World),rep w w.heap.size h.toD cs->depD h d k=true->Calls prog 53 #[av cs,k] w (gM (asm h d k).toD 38 w)
theorem Ea (h:Hp) (hz:szD h.toD<=4194304) (d:Nat) (ih:∀d',d=d'+1->ldP h d'):ldP h d:=by
 intro k cs w hr hd;obtain⟨j,x,rfl,hjl,hx,hxv,h40,hps,Un⟩:=Jo hd;have hcz:=wI h (j:Int);rw[iI hx]at hcz;obtain⟨A,n,c,Am,nm,cm,As,ns,ca,rfl,rc,rn,rs,wc⟩:=iP hr;have hl:=(ef rc).1;rw[au]at hl;obtain⟨b,off,x',Ai,ni,ci,Ap,np,cp,An,nn,cn,Ac,nc,cc,Al,nl,cl,Aq,nq,cq,rfl,gD,qD,fE,e0,e1,e2,e3,e4,e5,e6,e7,e8,e9⟩:=lm rc (k:=j) dP;rw[hx]at qD;injection qD with qD;subst qD;obtain⟨_,_,_,_,_,_,_,_,_,_,_,_,_,_,_,WQ,Yp,Xi,lK,wcn,rv,rq⟩:=i8 fE;simp only[bF,bG,dy,cO]at lK;obtain⟨⟨rfl,rfl,rfl⟩,⟨rfl,rfl,rfl⟩,⟨rfl,rfl,rfl⟩,⟨rfl,rfl,rfl⟩,⟨rfl,rfl,rfl⟩,rfl,rfl,rfl⟩:=lK;obtain⟨WQ,Yp,Xi,he,hqc,hqm,hq,_⟩:=(qy _ _ _ _).1 rq;injection he with he;injection he with f1 f2 f3;subst f1 f2 f3
 have Px:=hq.len;have hnq:nq<=40:=dP;have bj:(j:Int)<(n:Int):=dP;have bj0:(0:Int)<=(j:Int):=dP;have q0:=((Below.refl w.heap.size w).alloc (af _) (.cells #[.slice (some ⟨b,off,none⟩) n c,.slice Am nm cm,.slice As ns ca,h.copies] 28)).alloc eA (.cells #[.int .i64 0,(),(),(),(),(),.int .i64 0,.int .i64 0] 38);have kH:Blk ((w.alloc (.cells #[.slice (some ⟨b,off,none⟩) n c,.slice Am nm cm,.slice As ns ca,h.copies] 28)).alloc (.cells #[.int .i64 0,(),(),(),(),(),.int .i64 0,.int .i64 0] 38)) w.heap.size 28 [.slice (some ⟨b,off,none⟩) n c,.slice Am nm cm,.slice As ns ca,h.copies]:=(Blk.new' (l:=[.slice (some ⟨b,off,none⟩) n c,.slice Am nm cm,.slice As ns ca,.int .i64 h.copies])).al;have kR:Blk ((w.alloc (.cells #[.slice (some ⟨b,off,none⟩) n c,.slice Am nm cm,.slice As ns ca,h.copies] 28)).alloc (.cells #[.int .i64 0,(),(),(),(),(),.int .i64 0,.int .i64 0] 38)) (w.heap.size+1) 38 [.int .i64 0,(),(),(),(),(),.int .i64 0,.int .i64 0]:=GL;have HX:=aa hx;have HXV:=aa hxv;have xo:=aa ih;have HPS:=aa hps;have acV:=aa Un;have HQL:=aa Px;have HR:=aa hr;clear hx hxv ih hps Un Px hr hd hl;have rv0:=fb rv q0 q0.size;have zv0:szD x.value.toD<=500000000000:=dP;go_enter func53,ntmps53;go_wp2_with fail;refine(tZ x.value HXV.out _ _ rv0 zv0).mono ?_;rintro e w1 ⟨cs1,G,rfl,o1,AP,hb1⟩;obtain⟨A1,n1,c1,A5,n5,c5,A2,n2,c2,A3,n3,c3,A4,n4,c4,F1,F5,F2,F3,F4,rfl,rfl,wk,p1,p5,p2,p3,p4,xF,I9⟩:=uT o1;rw[HXV.out]at p5;obtain rfl:=NI p5;obtain⟨hc1,hf1⟩:=fY hb1;have z1:=hb1.size;(try simp only[dW,dT,dX]at hc1 hf1 z1);have kH1:=kH.next hb1;have ZP:=kR.next hb1;have yb:b<w1.heap.size:=dP;have y0:w.heap.size<w1.heap.size:=dP;have y1:w.heap.size+1<w1.heap.size:=dP;have q1:=ij q0 hb1;have e9':=e9;have e9:=(q1.cell (p:=⟨b,off+j*10+9,none⟩) gD).trans e9;obtain⟨g0,g1,g2,g3⟩:=kH1.c4;clear e0 e1 e2 e3 e4 e5 e6 e7 e8 hc1 hf1;go_wp2_with fail;have H9:=aa e9';clear g0 g1 g2 g3 e9 e9';have kg:Blk (w1.alloc (.cells #[x.value.kind,.slice A1 n1 c1,.slice A5 0 c5,.slice A2 n2 c2,.slice A3 n3 c3,.slice A4 n4 c4,x.value.code,x.value.env] 38)) w1.heap.size 38 [x.value.kind,.slice A1 n1 c1,.slice A5 0 c5,.slice A2 n2 c2,.slice A3 n3 c3,.slice A4 n4 c4,x.value.code,x.value.env]:=Blk.new';have qa:=(Below.refl w1.heap.size w1).alloc (af _) (.cells #[x.value.kind,.slice A1 n1 c1,.slice A5 0 c5,.slice A2 n2 c2,.slice A3 n3 c3,.slice A4 n4 c4,x.value.code,x.value.env] 38);have l1:=gC o1;go_loopw [6] (λi wr=>asL x.value (x.parts.map (asm h (d - 1))) h w w (w.heap.size+2) [.slice (some ⟨b,off,none⟩) n c,.slice Am nm cm,.slice As ns ca,h.copies] nq w1.heap.size A1 n1 c1 A2 n2 c2 A3 n3 c3 A4 n4 c4 F1 F2 F3 F4 i wr/\Blk wr (w.heap.size+1) 38 zV) (λi _=>nq - (intOf i).toNat)
 case atStart=>
  refine⟨⟨0,A5,c5,F5,by omega,rfl,kg,kH1.al,by simpa using fK p5,fK p1,fK p2,fK p3,fK p4,?_,gT q1 q1.size⟩,ZP.al⟩;have f1:Fresh (w.heap.size+2) (w1.heap.size::(F1++(F5++(F2++(F3++F4))))):=Fresh.cons (l1.notin (af _)) dP (AP.mono eA);exact f1.perm (List.perm_iff_count.2 λa=>by simp only[bT,cX];omega)
 case round=>
  clear kg kH1 ZP p1 p2 p3 p4 p5 qa o1 l1;obtain⟨⟨k,Ao,co,FP,hk,rfl,kg,kH,oP,o1,o2,o3,o4,fr,bb⟩,kR⟩:=hrel;have z0:=bb.size;have XK:=kg.lt;have yb:b<wr.heap.size:=dP;have yh:w.heap.size<wr.heap.size:=dP;obtain⟨g0,g1,g2,g3⟩:=kH.c4;by_cases hlt:k<nq
  ·obtain⟨bq,oq,y,rfl,hbq,hy,hcq⟩:=(hq.below bb).at_ hlt;have c0:=hcq 0 _ rfl;simp only[cu,cF]at c0;have HY:=aa (eJ (l:=x.parts.map (asm h (d - 1))) (k:=k) (x:=asm h (d - 1) y) (by rw[cg,hy];rfl));obtain⟨d',hd',hdy⟩:=HPS.out y (aA hy);have HP:=aa (xo.out d' hd');have HD:Hid (d - 1=d'):=aa dP;have HDY:=aa hdy;have HY2:Hid ((x.parts.map (asm h (d - 1))).take (k+1)=(x.parts.map (asm h (d - 1))).take k++[asm h d' y]):=aa (by rw[<-HD.out];exact HY.out);have ry:=fb HR.out bb bb.size;have hyb:bq<wr.heap.size:=dP;have HC0:Hid (w.cell? ⟨bq,oq+k,none⟩=some (.int .i64 y)):=aa ((bb.cell (p:=⟨bq,oq+k,none⟩) hbq).symm.trans c0);clear hcq hy hd' hdy;have e9w:=(bb.cell (p:=⟨b,off+j*10+9,none⟩) gD).trans H9.out;have eg:=kg.cell 2;simp only[ah,ag]at eg;have zf:=kg.frozen 2;have lP:=gC oP;have Iq:=fr.left;have dg:=fr.dis w1.heap.size aT;go_wp2_with fail;have SL:∀W:World,Below w.heap.size w W->Blk W w.heap.size 28 [.slice (some ⟨b,off,none⟩) n c,.slice Am nm cm,.slice As ns ca,h.copies]->(W.cell? ⟨w.heap.size,0,none⟩=some (.slice (some ⟨b,off,none⟩) n c)/\W.cell? ⟨w.heap.size,1,none⟩=some (.slice Am nm cm)/\W.cell? ⟨w.heap.size,2,none⟩=some (.slice As ns ca)/\W.cell? ⟨w.heap.size,3,none⟩=some (.int .i64 h.copies)/\W.cell? ⟨b,off+j*10+9,none⟩=some (.slice (some ⟨bq,oq,none⟩) nq cq)/\W.cell? ⟨bq,oq+k,none⟩=some (.int .i64 y)):=λW hW kW=>by obtain⟨g0,g1,g2,g3⟩:=kW.c4;exact⟨g0,g1,g2,g3,(hW.cell (p:=⟨b,off+j*10+9,none⟩) gD).trans H9.out,(hW.cell (p:=⟨bq,oq+k,none⟩) hbq).trans HC0.out⟩
   have S0:=SL wr.drew bb.drew kH;have xp:=aa SL;clear SL;refine aW (S:=λW=>W.cell? ⟨w.heap.size,0,none⟩=some (.slice (some ⟨b,off,none⟩) n c)/\W.cell? ⟨w.heap.size,1,none⟩=some (.slice Am nm cm)/\W.cell? ⟨w.heap.size,2,none⟩=some (.slice As ns ca)/\W.cell? ⟨w.heap.size,3,none⟩=some (.int .i64 h.copies)/\W.cell? ⟨b,off+j*10+9,none⟩=some (.slice (some ⟨bq,oq,none⟩) nq cq)/\W.cell? ⟨bq,oq+k,none⟩=some (.int .i64 y)) dU S0 (λhH=>?_);clear S0;refine k_ 0 ?_;refine k_ 2 ?_;refine k_ 3 ?_;refine k_ 4 ?_;refine k_ 5 ?_;refine k_ 6 ?_;refine k_ 7 ?_;refine k_ 8 ?_;refine k_ 9 ?_;refine k_ 10 ?_;refine k_ 11 ?_;refine dG (rs:=[1,12]) dU dR (λi hi=>?_);simp only[aX,df,or_false]at hi;rcases hi with rfl|rfl;all_goals refine dD gO (λK hK=>?_)
   ·go_simp;refine hK _ _ ⟨by assumption,?_⟩;refine iW ?_;refine fZ 12 ?_;intro K hK;go_simp;go_at_call 53;refine(HP.out y _ _ (by(repeat'(first|with_reducible assumption|with_reducible refine kK ?_|with_reducible refine sL ?_|with_reducible refine fM ?_ dY))) HDY.out).mono ?_;rintro e w2 ⟨cs1,G1,rfl,Hz,Cf,jS⟩;obtain⟨Ci,ki,ei,Cp,kp,ep,Cn,kn,en,Cc,kc,ec,Cl,kl,el,rfl,_⟩:=fw (eW _ _ _ _ Hz);have z2:=jS.size;simp only[dW]at z2 Cf;have YQ:=gR (jR bb) jS si;have Ye:=kH.dw.next jS;have SS2:=xp.out w2 YQ Ye;have eg2:=(kg.dw.next jS).cell 2;simp only[ah,ag]at eg2;refine hK _ _ ⟨SS2,?_⟩;refine iW ?_;refine fZ 13 ?_;intro K hK;go_simp;have SS3:=xp.out (w2.alloc (.cells #[.int .i64 (asm h d' y).kind,.slice Ci ki ei,.slice Cp kp ep,.slice Cn kn en,.slice Cc kc ec,.slice Cl kl el,.int .i64 (asm h d' y).code,.int .i64 (asm h d' y).env] 38)) (gT YQ dP) Ye.al;have eg3:=(kg.dw.next jS).al (o:= .cells #[.int .i64 (asm h d' y).kind,.slice Ci ki ei,.slice Cp kp ep,.slice Cn kn en,.slice Cc kc ec,.slice Cl kl el,.int .i64 (asm h d' y).code,.int .i64 (asm h d' y).env] 38) |>.cell 2
    simp only[ah,ag]at eg3;refine hK _ _ ⟨SS3,?_⟩;refine iW ?_;refine fZ 14 ?_;intro K hK;refine gL (A:=Ao) (n:=k) (c:=co) (b:=w2.heap.size) (m:=1) (xs:=((x.parts.map (asm h (d - 1))).take k).map Vec.toD) (F:=FP) (d:=(asm h d' y).toD) (F':=G1) (te:=38) (cs:=[.int .i64 (asm h d' y).kind,.slice Ci ki ei,.slice Cp kp ep,.slice Cn kn en,.slice Cc kc ec,.slice Cl kl el,.int .i64 (asm h d' y).code,.int .i64 (asm h d' y).env]) jM ?_ ?_ (.tmp 26) (.tmp 38) ?_ ?_ ?_ ?_ ?_ ?_ ?_ ?_ ?_ ?_ ?_
    ·kernel_rfl
    ·rfl
    ·rfl
    ·rfl
    ·exact fK (em (gX oP) jS)
    ·rfl
    ·exact uv
    ·exact yf
    ·rfl
    ·exact(Fresh.app2 lP Iq Cf dP).1
    ·exact g8
    ·omega
    intro gg cc w3 Ku TG KD rN;simp only[dT]at KD;have NX:=Dg (h:=h) hlt HY2.out kg kH oP o1 o2 o3 o4 fr bb kR XK dP jS Cf KD rN TG;have kg2:=Blk.mod (t:=38) (cs:=[.int .i64 x.value.kind,.slice A1 n1 c1,.slice Ao k co,.slice A2 n2 c2,.slice A3 n3 c3,.slice A4 n4 c4,.int .i64 x.value.code,.int .i64 x.value.env]) ((kg.dw.next jS).al) rN dg;have eg4:=kg2.cell 2;simp only[ah,ag]at eg4;have zf4:=kg2.frozen 2;have sB3:=jN (gT (o:= .cells #[.int .i64 (asm h d' y).kind,.slice Ci ki ei,.slice Cp kp ep,.slice Cn kn en,.slice Cc kc ec,.slice Cl kl el,.int .i64 (asm h d' y).code,.int .i64 (asm h d' y).env] 38) YQ dP) rN (λy hy=>by have:=Iq.2 y hy;omega) eA;have kH3:=(Ye.al (o:= .cells #[.int .i64 (asm h d' y).kind,.slice Ci ki ei,.slice Cp kp ep,.slice Cn kn en,.slice Cc kc ec,.slice Cl kl el,.int .i64 (asm h d' y).code,.int .i64 (asm h d' y).env] 38)).mod rN (Iq.notin dP);have Ze:=xp.out w3 sB3 kH3;have NX2:=aa NX;obtain⟨⟨_,_,_,_,_,_,_,ZO,_,_,_,_,_,_,Jg⟩,_⟩:=NX;have Zf:=xp.out _ Jg ZO;have HS5:=aa Zf;clear Zf Jg ZO;refine hK _ _ ⟨Ze,?_⟩;refine iW ?_;refine fZ 15 ?_;intro K hK;go_simp;refine hK _ _ ⟨Ze,?_⟩;refine iW ?_;refine fZ 16 ?_;intro K hK;go_simp;refine hK _ _ ⟨HS5.out,?_⟩;refine iW ?_;refine bv dU ?_ _;go_wp2_with fail;go_roundw
    case rel=>exact NX2.out
    case measure=>simp [intOf];omega
   ·go_simp;go_at_call 53;refine(HP.out y _ _ (by(repeat'(first|with_reducible assumption|with_reducible refine kK ?_|with_reducible refine sL ?_|with_reducible refine fM ?_ dY))) HDY.out).mono ?_;rintro e w2 ⟨cs1,G1,rfl,Hz,Cf,jS⟩;obtain⟨Ci,ki,ei,Cp,kp,ep,Cn,kn,en,Cc,kc,ec,Cl,kl,el,rfl,_⟩:=fw (eW _ _ _ _ Hz);have z2:=jS.size;simp only[dW]at z2 Cf;have YQ:=gR (jR bb) jS si;have Ye:=kH.dw.next jS;have SS2:=xp.out w2 YQ Ye;have eg2:=(kg.dw.next jS).cell 2;simp only[ah,ag]at eg2;refine hK _ _ ⟨SS2,?_⟩;refine iW ?_;refine dG (rs:=[1,13]) dU dR (λi hi=>?_);simp only[aX,df,or_false]at hi;rcases hi with rfl|rfl;all_goals refine dD gO (λK hK=>?_)
    ·go_simp;refine hK _ _ ⟨by assumption,?_⟩;refine iW ?_;refine fZ 13 ?_;intro K hK;go_simp;have SS3:=xp.out (w2.alloc (.cells #[.int .i64 (asm h d' y).kind,.slice Ci ki ei,.slice Cp kp ep,.slice Cn kn en,.slice Cc kc ec,.slice Cl kl el,.int .i64 (asm h d' y).code,.int .i64 (asm h d' y).env] 38)) (gT YQ dP) Ye.al;have eg3:=(kg.dw.next jS).al (o:= .cells #[.int .i64 (asm h d' y).kind,.slice Ci ki ei,.slice Cp kp ep,.slice Cn kn en,.slice Cc kc ec,.slice Cl kl el,.int .i64 (asm h d' y).code,.int .i64 (asm h d' y).env] 38) |>.cell 2
     simp only[ah,ag]at eg3;refine hK _ _ ⟨SS3,?_⟩;refine iW ?_;refine fZ 14 ?_;intro K hK;refine gL (A:=Ao) (n:=k) (c:=co) (b:=w2.heap.size) (m:=1) (xs:=((x.parts.map (asm h (d - 1))).take k).map Vec.toD) (F:=FP) (d:=(asm h d' y).toD) (F':=G1) (te:=38) (cs:=[.int .i64 (asm h d' y).kind,.slice Ci ki ei,.slice Cp kp ep,.slice Cn kn en,.slice Cc kc ec,.slice Cl kl el,.int .i64 (asm h d' y).code,.int .i64 (asm h d' y).env]) jM ?_ ?_ (.tmp 26) (.tmp 38) ?_ ?_ ?_ ?_ ?_ ?_ ?_ ?_ ?_ ?_ ?_
     ·kernel_rfl
     ·rfl
     ·rfl
     ·rfl
     ·exact fK (em (gX oP) jS)
     ·rfl
     ·exact uv
     ·exact yf
     ·rfl
     ·exact(Fresh.app2 lP Iq Cf dP).1
     ·exact g8
     ·omega
     intro gg cc w3 Ku TG KD rN;simp only[dT]at KD;have NX:=Dg (h:=h) hlt HY2.out kg kH oP o1 o2 o3 o4 fr bb kR XK dP jS Cf KD rN TG;have kg2:=Blk.mod (t:=38) (cs:=[.int .i64 x.value.kind,.slice A1 n1 c1,.slice Ao k co,.slice A2 n2 c2,.slice A3 n3 c3,.slice A4 n4 c4,.int .i64 x.value.code,.int .i64 x.value.env]) ((kg.dw.next jS).al) rN dg;have eg4:=kg2.cell 2;simp only[ah,ag]at eg4;have zf4:=kg2.frozen 2;have sB3:=jN (gT (o:= .cells #[.int .i64 (asm h d' y).kind,.slice Ci ki ei,.slice Cp kp ep,.slice Cn kn en,.slice Cc kc ec,.slice Cl kl el,.int .i64 (asm h d' y).code,.int .i64 (asm h d' y).env] 38) YQ dP) rN (λy hy=>by have:=Iq.2 y hy;omega) eA;have kH3:=(Ye.al (o:= .cells #[.int .i64 (asm h d' y).kind,.slice Ci ki ei,.slice Cp kp ep,.slice Cn kn en,.slice Cc kc ec,.slice Cl kl el,.int .i64 (asm h d' y).code,.int .i64 (asm h d' y).env] 38)).mod rN (Iq.notin dP);have Ze:=xp.out w3 sB3 kH3;have NX2:=aa NX;obtain⟨⟨_,_,_,_,_,_,_,ZO,_,_,_,_,_,_,Jg⟩,_⟩:=NX;have Zf:=xp.out _ Jg ZO;have HS5:=aa Zf;clear Zf Jg ZO;refine hK _ _ ⟨Ze,?_⟩;refine iW ?_;refine fZ 15 ?_;intro K hK;go_simp;refine hK _ _ ⟨Ze,?_⟩;refine iW ?_;refine fZ 16 ?_;intro K hK;go_simp;refine hK _ _ ⟨HS5.out,?_⟩;refine iW ?_;refine bv dU ?_ _;go_wp2_with fail;go_roundw
     case rel=>exact NX2.out
     case measure=>simp [intOf];omega
    ·go_simp;have SS3:=xp.out (w2.alloc (.cells #[.int .i64 (asm h d' y).kind,.slice Ci ki ei,.slice Cp kp ep,.slice Cn kn en,.slice Cc kc ec,.slice Cl kl el,.int .i64 (asm h d' y).code,.int .i64 (asm h d' y).env] 38)) (gT YQ dP) Ye.al;have eg3:=(kg.dw.next jS).al (o:= .cells #[.int .i64 (asm h d' y).kind,.slice Ci ki ei,.slice Cp kp ep,.slice Cn kn en,.slice Cc kc ec,.slice Cl kl el,.int .i64 (asm h d' y).code,.int .i64 (asm h d' y).env] 38) |>.cell 2
     simp only[ah,ag]at eg3;refine hK _ _ ⟨SS3,?_⟩;refine iW ?_;refine fZ 1 ?_;intro K hK;go_simp;refine hK _ _ ⟨by assumption,?_⟩;refine iW ?_;refine fZ 14 ?_;intro K hK;refine gL (A:=Ao) (n:=k) (c:=co) (b:=w2.heap.size) (m:=1) (xs:=((x.parts.map (asm h (d - 1))).take k).map Vec.toD) (F:=FP) (d:=(asm h d' y).toD) (F':=G1) (te:=38) (cs:=[.int .i64 (asm h d' y).kind,.slice Ci ki ei,.slice Cp kp ep,.slice Cn kn en,.slice Cc kc ec,.slice Cl kl el,.int .i64 (asm h d' y).code,.int .i64 (asm h d' y).env]) jM ?_ ?_ (.tmp 26) (.tmp 38) ?_ ?_ ?_ ?_ ?_ ?_ ?_ ?_ ?_ ?_ ?_
     ·kernel_rfl
     ·rfl
     ·rfl
     ·rfl
     ·exact fK (em (gX oP) jS)
     ·rfl
     ·exact uv
     ·exact yf
     ·rfl
     ·exact(Fresh.app2 lP Iq Cf dP).1
     ·exact g8
     ·omega
     intro gg cc w3 Ku TG KD rN;simp only[dT]at KD;have NX:=Dg (h:=h) hlt HY2.out kg kH oP o1 o2 o3 o4 fr bb kR XK dP jS Cf KD rN TG;have kg2:=Blk.mod (t:=38) (cs:=[.int .i64 x.value.kind,.slice A1 n1 c1,.slice Ao k co,.slice A2 n2 c2,.slice A3 n3 c3,.slice A4 n4 c4,.int .i64 x.value.code,.int .i64 x.value.env]) ((kg.dw.next jS).al) rN dg;have eg4:=kg2.cell 2;simp only[ah,ag]at eg4;have zf4:=kg2.frozen 2;have sB3:=jN (gT (o:= .cells #[.int .i64 (asm h d' y).kind,.slice Ci ki ei,.slice Cp kp ep,.slice Cn kn en,.slice Cc kc ec,.slice Cl kl el,.int .i64 (asm h d' y).code,.int .i64 (asm h d' y).env] 38) YQ dP) rN (λy hy=>by have:=Iq.2 y hy;omega) eA;have kH3:=(Ye.al (o:= .cells #[.int .i64 (asm h d' y).kind,.slice Ci ki ei,.slice Cp kp ep,.slice Cn kn en,.slice Cc kc ec,.slice Cl kl el,.int .i64 (asm h d' y).code,.int .i64 (asm h d' y).env] 38)).mod rN (Iq.notin dP);have Ze:=xp.out w3 sB3 kH3;have NX2:=aa NX;obtain⟨⟨_,_,_,_,_,_,_,ZO,_,_,_,_,_,_,Jg⟩,_⟩:=NX;have Zf:=xp.out _ Jg ZO;have HS5:=aa Zf;clear Zf Jg ZO;refine hK _ _ ⟨Ze,?_⟩;refine iW ?_;refine fZ 15 ?_;intro K hK;go_simp;refine hK _ _ ⟨Ze,?_⟩;refine iW ?_;refine fZ 16 ?_;intro K hK;go_simp;refine hK _ _ ⟨HS5.out,?_⟩;refine iW ?_;refine bv dU ?_ _;go_wp2_with fail;go_roundw
     case rel=>exact NX2.out
     case measure=>simp [intOf];omega
  ·obtain rfl:k=nq:=dP;obtain⟨r0,r1,r2,r3,r4,r5,r6,r7⟩:=kR.c8;have Cz:w.heap.size+1<wr.heap.size:=dP;obtain⟨e0,e1,e2,e3,e4,e5,e6,e7⟩:=kg.c8;have zr:=λi=>kR.frozen i;have Tq:=zr 0;have zr1:=zr 1;have zr2:=zr 2;have zr3:=zr 3;have zr4:=zr 4;have zr5:=zr 5;have zr6:=zr 6;have zr7:=zr 7;have e9w:=(bb.cell (p:=⟨b,off+j*10+9,none⟩) gD).trans H9.out;clear zr;go_wp2_with fail;rw[aC (by rw[au,HQL.out];omega)]at oP;have hgR:w1.heap.size≠w.heap.size+1:=dP;refine bM (v:= .agg #[x.value.kind,.slice A1 n1 c1,.slice Ao k co,.slice A2 n2 c2,.slice A3 n3 c3,.slice A4 n4 c4,x.value.code,x.value.env]) (by simp [results,results53,go_sem,r0,r1,r2,r3,r4,r5,r6,r7,Cz]) rfl ⟨_,F1++(FP++(F2++(F3++(F4++[])))),rfl,?_,?_,?_⟩
   ·exact GB
   ·exact yF
   ·exact mg
theorem rV (h:Hp) (hz:szD h.toD<=4194304):∀d:Nat,ldP h d
 |0=>Ea h hz 0 (λd' e=>by omega)
 |d+1=>Ea h hz (d+1) (λd' e=>by obtain rfl:d=d':=dP;exact rV h hz d)
def slotD (h:Hp) (s:Str):Int:=(h.slots[(ix h.names s 0).toNat]?).getD 0
def hasN (h:Hp) (s:Str):Bool:=decide (0<=ix h.names s 0)
def cellD (h:Hp) (s:Str):Int:=if hasN h s=true then slotD h s else -1
theorem jc (hk:fG h=true):h.names.length=h.slots.length/\i_ (m9 (lM h.cells.length (refs h))) h.cells=true/\i_ (λi s=>s7 h i s ((h.slots[i]?).getD 0)) h.names=true:=by simp only[fG,ax,aL]at hk;exact⟨hk.1.1.1.1,hk.1.2,hk.2⟩
theorem BA {s:Str} (hk:fG h=true) (hn:hasN h s=true):
 ∃i:Nat,ix h.names s 0=(i:Int)/\i<h.slots.length/\h.slots[i]?=some (slotD h s)/\0<=slotD h s/\slotD h s<h.cells.length/\depD h 3 (slotD h s)=true/\isVec (asm h 3 (slotD h s))=true:=by
 obtain⟨h1,h2,h3⟩:=jc hk;simp only[hasN,aL]at hn;have hg:=(pY h.names s 0).2;obtain⟨i,hi⟩:=bQ hn;have hil:i<h.slots.length:=dP;have hx:h.names[i]?=some (h.names[i]' dP):=aw dP;have hs:h.slots[i]?=some (slotD h s):=by unfold slotD;rw[hi,aU,aw hil];rfl
 have h4:=iC.1 h3 i _ hx;simp only[hs,bV,s7,ax]at h4;have h5:∀c∈h.cells,c.value.parts.length=0:=by intro c hc;obtain⟨j,hj,rfl⟩:=List.getElem_of_mem hc;have h6:=iC.1 h2 j _ (aw hj);simp only[m9,ax,aL]at h6;exact h6.1.2
 have hd:depD h 3 (slotD h s)=true:=by rw[Cx h5];exact h4.1.2
 have hr:=j7 (zp hd);simp only[inR,aL]at hr;exact⟨i,hi,hil,hs,hr.1,hr.2,hd,h4.2⟩
theorem kY {e:TypeId} (ht:P.underlying t=some (.slice e)):own P w (.sl []) t [] [()]:=by rw[own];exact⟨e,none,0,0,P.cellsOf e,[],[],ht,rfl,rfl,by unfold maxLen;omega,Own.nil_,rfl,by rw[iv];exact⟨rfl,rfl⟩⟩
theorem ST (w:World):own prog w zeroV.toD 38 [] [.int .i64 0,(),(),(),(),(),.int .i64 0,.int .i64 0]:=by
 refine jD (x:=zeroV) (Fitems:=[]) (Fparts:=[]) (Fnames:=[]) (Fcls:=[]) (Flevels:=[]) dQ ?_ ?_ ?_ ?_ ?_ dQ dQ
 ·exact kY underlying35
 ·exact kY underlying36
 ·exact kY underlying25
 ·exact kY underlying25
 ·exact kY underlying25
theorem tJ (h:Hp) (hl:h.names.length=h.slots.length) (s:Str) (cs:List Value) (w:World) (hr:rep w w.heap.size h.toD cs):
 Calls prog 38 #[av cs,sv s] w λe w'=>e= .returned (.int .i64 (cellD h s))/\Below w.heap.size w w':=by
 obtain⟨A,n,c,Am,nm,cm,As,ns,ca,rfl,rc,rn,rs,wc⟩:=iP hr;obtain⟨Wl,WG,ca',he,hsc,hsm,hs,_⟩:=(qy _ _ _ _).1 rs;injection he with he;injection he with f1 f2 f3;subst f1 f2 f3
 obtain⟨Am',nm',cm',he,hmc,hmm,hm,Ng⟩:=(ls _ _ _ _).1 rn;injection he with he;injection he with f1 f2 f3;subst f1 f2 f3
 have q0:=(Below.refl w.heap.size w).alloc (af _) (.cells #[.slice A n c,.slice Am nm cm,.slice As ns ca,h.copies] 28);have hg:=(pY h.names s 0).2;have AR:=hm.len;have xf:=hs.len;have R5:=jx Am nm cm h.names s (w.alloc (.cells #[.slice A n c,.slice Am nm cm,.slice As ns ca,h.copies] 28)) (hm.next q0) dP;cases hn:hasN h s with
 |false=>
  have hc:cellD h s= -1:=by simp [cellD,hn]
  have h0:ix h.names s 0<0:=by simp only[hasN,bB]at hn;omega
  have HC:=aa hc;clear hc hn hl AR xf hg;go_enter func38,ntmps38;go_wp2_with fail;refine R5.mono ?_;rintro e w1 ⟨rfl,rfl⟩;go_wp2_with fail;go_ret;exact⟨eZ HC.out.symm,q0⟩
 |true=>
  have hc:cellD h s=slotD h s:=by simp [cellD,hn]
  have h0:0<=ix h.names s 0:=by simpa [hasN]using hn
  obtain⟨i,hi⟩:=bQ h0;rw[hi]at R5 hg;obtain⟨bs,os,k,rfl,hbs,hk,Sk⟩:=(hs.below q0).atI (k:=i) dP;have hks:slotD h s=k:=by unfold slotD;rw[hi,aU,hk];rfl
  have hlt:(i:Int)<(ns:Int):=dP;have HC:=aa (hc.trans hks);clear hc hks hn hl AR xf hg hi h0 hk;go_enter func38,ntmps38;go_wp2_with fail;refine R5.mono ?_;rintro e w1 ⟨rfl,rfl⟩;go_wp2_with fail;go_ret;exact⟨eZ HC.out.symm,q0⟩
def gy:List Cel->Nat->Option Nat
 |[],_=>none
 |c::t,i=>if c.count=0 then some i else gy t (i+1)
theorem uZ {l:List Cel} {i:Nat} {c:Cel} (hc:l[i]?=some c):gy (l.drop i) i=if c.count=0 then some i else gy (l.drop (i+1)) (i+1):=by
 have hi:=(ay.1 hc).1;rw[cR hi];rw[aw hi]at hc;injection hc with hc
 rw[gy,hc]
def gH (h:Hp) (c:Cel):Hp × Int:=match gy h.cells 0 with
 |some k=>(eG h k c,k)
 |none=>({h with cells:=h.cells++[c]},h.cells.length)
def lf:Cel:=⟨0,zeroV,[]⟩
def KP (c:Cel):Cel:={c with count:=c.count - 1}
def gE (c:Cel):Cel:={c with count:=c.count+1}
def iD:Nat->Hp->Int->Hp
 |0,h,_=>h
 |f+1,h,k=>if 0<(celD h k).count - 1 then eG h k.toNat (KP (celD h k)) else (celD h k).parts.foldl (iD f) (eG h k.toNat lf)
def allOK (ok:Hp->Int->Prop) (st:Hp->Int->Hp):Hp->List Int->Prop
 |_,[]=>True
 |h,p::t=>ok h p/\allOK ok st (st h p) t
def Xd (z:Int):Prop:= -1152921504606846976<=z/\z<=1152921504606846976
def relOK:Nat->Hp->Int->Prop
 |0,_,_=>False
 |f+1,h,k=>inR h k=true/\Xd (celD h k).count/\(0<(celD h k).count - 1\/allOK (relOK f) (iD f) (eG h k.toNat lf) (celD h k).parts)
def fd (h:Hp) (s:Str) (k:Int):Hp:=if 0<=ix h.names s 0 then iD 5 {h with slots:=h.slots.set (ix h.names s 0).toNat k} (slotD h s) else {h with names:=h.names++[s],slots:=h.slots++[k]}
theorem Blk.inj {cs cs':List Value} (h:Blk w g t cs) (h':Blk w g t' cs'):cs=cs':=by have:=h.symm.trans h';injection this with this;injection this with e1;simpa using e1
theorem pz {L4 Ct Wl:Option Addr}{JS L7 CE Hw WG cs':Nat} (k:Blk w g t (px h Ac nc cc An nn cn As ns cs)) (k':Blk w g t' (px h L4 JS L7 Ct CE Hw Wl WG cs')):
 Ac=L4/\nc=JS/\cc=L7/\An=Ct/\nn=CE/\cn=Hw/\As=Wl/\ns=WG/\cs=cs':=by
 have e:=k.inj k';simp only[px,bF,bG,cO]at e;obtain⟨⟨a,b,c⟩,⟨d,e,f⟩,g,h,i⟩:=e;exact⟨a,b,c,d,e,f,g,h,i⟩
theorem Blk.put10 {h a' b' c' d' e' f' h' i' j' k':Value} (q:Blk w g t (pre++([a,b,c,d,e,f,h,i,j,k]++post))) (hp:pre.length=m):
 Blk ((((((((((w.setCell ⟨g,m,none⟩ a').setCell ⟨g,m+1,none⟩ b').setCell ⟨g,m+2,none⟩ c').setCell ⟨g,m+3,none⟩ d').setCell ⟨g,m+4,none⟩ e').setCell ⟨g,m+5,none⟩ f').setCell ⟨g,m+6,none⟩ h').setCell ⟨g,m+7,none⟩ i').setCell ⟨g,m+8,none⟩ j').setCell ⟨g,m+9,none⟩ k') g t (pre++([a',b',c',d',e',f',h',i',j',k']++post)):=by
 have q0:=q.put_ hp (j:=0) (o:=m) dR rfl a';have q1:=q0.put_ hp (j:=1) (o:=m+1) dR rfl b';have q2:=q1.put_ hp (j:=2) (o:=m+2) dR rfl c';have q3:=q2.put_ hp (j:=3) (o:=m+3) dR rfl d';have q4:=q3.put_ hp (j:=4) (o:=m+4) dR rfl e';have q5:=q4.put_ hp (j:=5) (o:=m+5) dR rfl f';have q6:=q5.put_ hp (j:=6) (o:=m+6) dR rfl h';have q7:=q6.put_ hp (j:=7) (o:=m+7) dR rfl i';have q8:=q7.put_ hp (j:=8) (o:=m+8) dR rfl j';exact q8.put_ hp (j:=9) (o:=m+9) dR rfl k'
theorem Q3 {h:Value} (hg:g∈F):
 Mod F w ((((((((((w.setCell ⟨g,m,none⟩ a).setCell ⟨g,m+1,none⟩ b).setCell ⟨g,m+2,none⟩ c).setCell ⟨g,m+3,none⟩ d).setCell ⟨g,m+4,none⟩ e).setCell ⟨g,m+5,none⟩ f).setCell ⟨g,m+6,none⟩ h).setCell ⟨g,m+7,none⟩ i).setCell ⟨g,m+8,none⟩ j).setCell ⟨g,m+9,none⟩ k):=by
 have p:∀(w:World) (o:Nat) (u:Value),Mod F w (w.setCell ⟨g,o,none⟩ u):=λw o u=>Mod.poke (F:=F) (p:=⟨g,o,none⟩) hg u;exact iV (iV (iV (iV (iV (iV (iV (iV (iV (p _ _ _) (p _ _ _) (λ_ h=>h)) (p _ _ _) (λ_ h=>h)) (p _ _ _) (λ_ h=>h)) (p _ _ _) (λ_ h=>h)) (p _ _ _) (λ_ h=>h)) (p _ _ _) (λ_ h=>h)) (p _ _ _) (λ_ h=>h)) (p _ _ _) (λ_ h=>h)) (p _ _ _) (λ_ h=>h)
theorem Blk.d10 {h:Value} (q:Blk w g t [a,b,c,d,e,f,h,i,j,k]):w.cell? ⟨g,0,none⟩=some a/\w.cell? ⟨g,1,none⟩=some b/\w.cell? ⟨g,2,none⟩=some c/\w.cell? ⟨g,3,none⟩=some d/\w.cell? ⟨g,4,none⟩=some e/\w.cell? ⟨g,5,none⟩=some f/\w.cell? ⟨g,6,none⟩=some h/\w.cell? ⟨g,7,none⟩=some i/\w.cell? ⟨g,8,none⟩=some j/\w.cell? ⟨g,9,none⟩=some k:=
 ⟨q.cell 0,q.cell 1,q.cell 2,q.cell 3,q.cell 4,q.cell 5,q.cell 6,q.cell 7,q.cell 8,q.cell 9⟩
theorem Blk.e10 {h:Value} (q:Blk w g t (pre++([a,b,c,d,e,f,h,i,j,k]++post))) (hp:pre.length=m):w.cell? ⟨g,m,none⟩=some a/\w.cell? ⟨g,m+1,none⟩=some b/\w.cell? ⟨g,m+2,none⟩=some c/\w.cell? ⟨g,m+3,none⟩=some d/\w.cell? ⟨g,m+4,none⟩=some e/\w.cell? ⟨g,m+5,none⟩=some f/\w.cell? ⟨g,m+6,none⟩=some h/\w.cell? ⟨g,m+7,none⟩=some i/\w.cell? ⟨g,m+8,none⟩=some j/\w.cell? ⟨g,m+9,none⟩=some k:=
 ⟨q.elem hp 0 dR,q.elem hp 1 dR,q.elem hp 2 dR,q.elem hp 3 dR,q.elem hp 4 dR,q.elem hp 5 dR,q.elem hp 6 dR,q.elem hp 7 dR,q.elem hp 8 dR,q.elem hp 9 dR⟩
theorem Blk.fr10 {cs:List Value} (q:Blk w g t cs):w.frozen? ⟨g,m,none⟩=false/\w.frozen? ⟨g,m+1,none⟩=false/\w.frozen? ⟨g,m+2,none⟩=false/\w.frozen? ⟨g,m+3,none⟩=false/\w.frozen? ⟨g,m+4,none⟩=false/\w.frozen? ⟨g,m+5,none⟩=false/\w.frozen? ⟨g,m+6,none⟩=false/\w.frozen? ⟨g,m+7,none⟩=false/\w.frozen? ⟨g,m+8,none⟩=false/\w.frozen? ⟨g,m+9,none⟩=false:=
 ⟨q.frozen _,q.frozen _,q.frozen _,q.frozen _,q.frozen _,q.frozen _,q.frozen _,q.frozen _,q.frozen _,q.frozen _⟩
theorem T4 {c:Cel} (h:own P w c.toD t F (a::r)):own P w (Cel.toD {c with count:=1}) t F (.int .i64 1::r):=by
 rw[m7,own]at h ⊢;obtain⟨KW,css,h1,h2,h3⟩:=h;rw[iB]at h3;obtain⟨t1,t2,F1,F2,c1,c2,e1,rfl,rfl,h4,h5⟩:=h3;rw[own]at h4;obtain⟨rfl,rfl,_⟩:=h4;refine⟨KW,[.int .i64 1]::c2,h1,?_,?_⟩
 ·simp at h2 ⊢;exact h2.2
 ·rw[iB];exact⟨t1,t2,[],F2,_,c2,e1,rfl,rfl,by rw[own];exact⟨rfl,rfl,kP.2 dR⟩,h5⟩
theorem Bg:ElemTy prog 24 43 10 176:=by obtain⟨i0,hi,rJ,tW,hz2⟩:=cZ Mj;exact⟨i0,_,underlying24,hi,rJ,tW,hz2,rfl,by omega⟩
theorem Dm {c:Cel} (h:own P w c.toD t F (a::r)) {z:Int} (hz:(Lit.int .i64 z).wf=true):own P w (Cel.toD {c with count:=z}) t F (.int .i64 z::r):=by
 rw[m7,own]at h ⊢;obtain⟨KW,css,h1,h2,h3⟩:=h;rw[iB]at h3;obtain⟨t1,t2,F1,F2,c1,c2,e1,rfl,rfl,h4,h5⟩:=h3;rw[own]at h4;obtain⟨rfl,rfl,_⟩:=h4;refine⟨KW,[.int .i64 z]::c2,h1,?_,?_⟩
 ·simp at h2 ⊢;exact h2.2
 ·rw[iB];exact⟨t1,t2,[],F2,_,c2,e1,rfl,rfl,by rw[own];exact⟨rfl,rfl,hz⟩,h5⟩
theorem JY (w:World):own prog w lf.toD 43 [] [.int .i64 0,.int .i64 0,(),(),(),(),(),.int .i64 0,.int .i64 0,()]:=
 uO (x:=lf) (Fvalue:=[]) (Fparts:=[]) dQ (ST w) (kY underlying26)
theorem rT {α:Type} {f:α->Int->α} {l:List Int} {a:α} {j:Nat} (h:l[j]?=some y):(l.take (j+1)).foldl f a=f ((l.take j).foldl f a) y:=by rw[List.take_add_one,h,List.foldl_append];rfl
theorem qR {ok:Hp->Int->Prop} {st:Hp->Int->Hp}:∀{l:List Int} {h:Hp} {j:Nat} {y:Int},allOK ok st h l->l[j]?=some y->ok ((l.take j).foldl st h) y
 |[],_,_,_,_,h'=>by simp at h'
 |p::t,h,0,y,ho,h'=>by simp at h';subst h';rw[allOK]at ho;exact ho.1
 |p::t,h,j+1,y,ho,h'=>by simp at h';rw[allOK]at ho;rw[cG,bC];exact qR ho.2 h'
theorem AG {Q:List Nat} (hq:∀y∈Q,y ∉ g::F) (hl:∀y∈Q,y<B) (s:Sub B F G):∀y∈Q,y ∉ g::G:=λy hy hm=>by
 rcases aX.1 hm with e|hm
 ·exact hq y hy mr
 ·rcases s y hm with h1|h1
  ·exact hq y hy kw
  ·have:=hl y hy;omega
theorem Kh:ElemTy prog 26 3 1 8:=GR
theorem Qz (h:(g::(X++(Y++Z))).Nodup) (hl:Lo B (g::(X++(Y++Z)))) (ap:AppF B Y [] Y'):(g::(X++(Y'++Z))).Nodup/\Sub B (X++(Y++Z)) (X++(Y'++Z))/\g ∉ Y':=by
 have hY:∀y∈Y',y∈Y\/B<=y:=λy hy=>by
  rcases ap.2 y hy with h1|h1|h1
  ·exact .inl h1
  ·simp at h1
  ·exact .inr dP
 refine⟨ub (X:=g::X) (Y:=Y) (Z:=Z) (Y':=Y') h ap.1 (λy hy=>?_),λy hy=>?_,λhm=>?_⟩
 ·rcases hY y hy with h1|h1
  ·exact .inl h1
  ·exact .inr (λhm=>by have:=hl y (by simpa using hm);omega)
 ·rcases aG.1 hy with hy|hy
  ·exact .inl eK
  ·rcases aG.1 hy with hy|hy
   ·rcases hY y hy with h1|h1
    ·exact .inl kw
    ·exact .inr h1
   ·exact .inl eK
 ·rcases hY g hm with h1|h1
  ·exact(aQ.1 h).1 kw
  ·have:=hl g dR;omega
section
variable {w w':World} {g B:Nat} {h:Hp} {Ac An As:Option Addr} {nc cc nn cn ns cs:Nat} {Fc Fn Fs:List Nat}
theorem HB.names_app (kB:Blk w g 28 (px h Ac nc cc An nn cn As ns cs)) (o1:own prog w (.sl (h.cells.map Cel.toD)) 24 Fc [.slice Ac nc cc]) (o3:own prog w (.sl (h.slots.map (D.i .i64))) 26 Fs [.slice As ns cs]) (wf:(Lit.int .i64 h.copies).wf=true) (nd:(g::(Fc++(Fn++(Fs++[])))).Nodup)
 (hl:Lo B (g::(Fc++(Fn++(Fs++[]))))) {yX:List Nat} {gg gc:Nat} {s:Str} (PP:own prog w' (.sl (h.names.map D.s++[D.s s])) 25 yX [.slice (some ⟨gg,0,none⟩) (nn+1) gc]) (ap:AppF B Fn [] yX) (md:Mod Fn w w'):
 ∃F',HB (w'.setCell ⟨g,1,none⟩ (.slice (some ⟨gg,0,none⟩) (nn+1) gc)) g {h with names:=h.names++[s]} F'/\Sub B (Fc++(Fn++(Fs++[]))) F':=by
 obtain⟨n1,n2,n3⟩:=Qz (X:=Fc) (Y:=Fn) (Z:=Fs++[]) nd hl ap;have hg:=(aQ.1 nd).1;have nF:=aE.1 (aQ.1 nd).2;have nG:=aE.1 nF.2.1;have IG:=(Blk.mod (g:=g) kB md (λhm=>hg eV)).set_ 1 (.slice (some ⟨gg,0,none⟩) (nn+1) gc);exact⟨_,HB.shut (h:={h with names:=h.names++[s]}) IG (ft (fH o1 md (λy hy hm=>nF.2.2 y hy y eV rfl)) (λhm=>hg eV)) (by rw[aI];exact ft PP n3) (ft (fH o3 md (λy hy hm=>nG.2.2 y hm y eK rfl)) (λhm=>hg eV)) wf n1,n2⟩
theorem HB.slots_app (kB:Blk w g 28 (px h Ac nc cc An nn cn As ns cs)) (o1:own prog w (.sl (h.cells.map Cel.toD)) 24 Fc [.slice Ac nc cc]) (o2:own prog w (.sl (h.names.map D.s)) 25 Fn [.slice An nn cn]) (wf:(Lit.int .i64 h.copies).wf=true) (nd:(g::(Fc++(Fn++(Fs++[])))).Nodup)
 (hl:Lo B (g::(Fc++(Fn++(Fs++[]))))) {yX:List Nat} {gg gc:Nat} {k:Int} (Vq:own prog w' (.sl (h.slots.map (D.i .i64)++[D.i .i64 k])) 26 yX [.slice (some ⟨gg,0,none⟩) (ns+1) gc]) (ap:AppF B Fs [] yX) (md:Mod Fs w w'):
 ∃F',HB (w'.setCell ⟨g,2,none⟩ (.slice (some ⟨gg,0,none⟩) (ns+1) gc)) g {h with slots:=h.slots++[k]} F'/\Sub B (Fc++(Fn++(Fs++[]))) F':=by
 obtain⟨n1,n2,n3⟩:=Qz (g:=g) (X:=Fc++Fn) (Y:=Fs) (Z:=[]) (by simpa using nd) (λy hy=>hl y (by simpa [or_assoc]using hy)) ap;have hg:=(aQ.1 nd).1;have nF:=aE.1 (aQ.1 nd).2;have nG:=aE.1 nF.2.1;have IG:=(Blk.mod (g:=g) kB md (λhm=>hg eV)).set_ 2 (.slice (some ⟨gg,0,none⟩) (ns+1) gc);exact⟨_,HB.shut (h:={h with slots:=h.slots++[k]}) IG (ft (fH o1 md (λy hy hm=>nF.2.2 y hy y eV rfl)) (λhm=>hg eV)) (ft (fH o2 md (λy hy hm=>nG.2.2 y hy y eV rfl)) (λhm=>hg eV)) (by rw[aI];exact ft Vq n3) wf (by simpa using n1),by simpa using n2⟩
end
theorem HB.slot_set (H:HB w g h F) {i:Nat} (hi:h.slots[i]?=some y) {k:Int} (hk:(Lit.int .i64 k).wf=true):
 ∃(Ac:Option Addr) (nc cc:Nat) (An:Option Addr) (nn cn bs ns cs:Nat),Blk w g 28 (px h Ac nc cc An nn cn (some ⟨bs,0,none⟩) ns cs)/\h.slots.length=ns/\ns<=maxLen/\w.cell? ⟨bs,i,none⟩=some (.int .i64 y)/\w.frozen? ⟨bs,i,none⟩=false/\bs∈F/\bs≠g/\
  HB (w.setCell ⟨bs,i,none⟩ (.int .i64 k)) g {h with slots:=h.slots.set i k} F:=by
 have sM:=H.nd;obtain⟨Ac,nc,cc,An,nn,cn,As,ns,cs,Fc,Fn,Fs,kB,rfl,o1,o2,o3,wf⟩:=H.open_;have hl:=ef (eW _ _ _ _ o3);rw[au]at hl;obtain⟨bs,Fa,Fd,Fb,cx,pre,post,rfl,rfl,ox,hp,hB,hw⟩:=ta underlying26 o3 (show (h.slots.map (D.i .i64))[i]?=some (D.i .i64 y) by rw[cg,hi];rfl);rw[own]at ox;obtain⟨rfl,rfl,_⟩:=ox;replace hp:pre.length=i:=by simpa using hp
 have hg:=(aQ.1 sM).1;have Zz:bs≠g:=λe=>hg mr;have nF:=aE.1 (aQ.1 sM).2;have nG:=aE.1 nF.2.1;have hbs:bs ∉ Fa++Fb:=by have:=nG.2.1;rw[bP]at this;have:=(aQ.1 this).1;simpa using this
 have md:Mod [bs] w (w.setCell ⟨bs,i,none⟩ (.int .i64 k)):=Mod.poke dR _;have Vq:=hw (w.setCell ⟨bs,i,none⟩ (.int .i64 k)) (D.i .i64 k) [k] [] rfl (by rw[own];exact⟨rfl,rfl,hk⟩) (by have:=Blk.put_ hB hp (j:=0) (o:=i) dR gO (.int .i64 k);exact this) (λx hx=>md.2.2 x (by have:=jT _ _ _ _ o3 x (by rcases aG.1 hx with hx|hx<;>simp [hx]);exact this) (by simp;rintro rfl;exact hbs hx))
 have e0:=hB.elem hp 0 dR;refine⟨Ac,nc,cc,An,nn,cn,bs,ns,cs,kB,hl.1,by omega,e0,hB.frozen _,by simp,Zz,?_⟩;rw[<-dH]at Vq;exact HB.shut (h:={h with slots:=h.slots.set i k}) (Blk.mod (g:=g) kB md (by simp;exact Zz.symm)) (fH o1 md (λy hy hm=>by simp at hm;subst hm;exact nF.2.2 y hy y dR rfl)) (fH o2 md (λy hy hm=>by simp at hm;subst hm;exact nG.2.2 y hy y dR rfl)) Vq wf sM
def dpP (h:Hp) (d:Nat):Prop:=∀(nd k:Int) (cs:List Value) (w:World),nd=(d:Int)->rep w w.heap.size h.toD cs->Calls prog 66 #[av cs,k,nd] w λe w'=>e= .returned (.bool (depD h d k))/\Below w.heap.size w w'
theorem Cy {d:Nat} {k:Int} (hf:nS d (celD h k)=false):depD h d k=false:=by cases d<;>(rw[depD,hf];try rfl)
theorem Dt {h:Hp} {d:Nat} {k:Int} (hf:nS d (celD h k)=true):depD h d k=((celD h k).parts.all (depD h (d - 1))&&decide ((celD h k).value.parts.length=0)):=by
 cases d with
 |zero=>rw[depD,hf,wO hf];rfl
 |succ d=>rw[depD,hf];rfl
theorem Lh (h:Hp) (hc:(h.cells.length:Int)<=4194304) (k:Int) (cs:List Value) (w:World) (hr:rep w w.heap.size h.toD cs):Calls prog 66 #[av cs,k,.int .i64 (-1)] w λe w'=>e= .returned (.bool false)/\Below w.heap.size w w':=by
 obtain⟨A,n,c,Am,nm,cm,As,ns,ca,rfl,rc,rn,rs,wc⟩:=iP hr;have hl:=(ef rc).1;rw[au]at hl;have q0:=(Below.refl w.heap.size w).alloc (af _) (.cells #[.slice A n c,.slice Am nm cm,.slice As ns ca,h.copies] 28);have hn:(n:Int)<=4194304:=dP;clear hl;by_cases hk:0<=k/\k<=(n:Int) - 1
 ·obtain⟨j,rfl⟩:∃j:Nat,k=j:=⟨k.toNat,by omega⟩;have hj:j<n:=dP;obtain⟨b,off,x,Ai,ni,ci,Ap,np,cp,An,nn,cn,Ac,nc,cc,Al,nl,cl,Aq,nq,cq,rfl,gD,hx,fE,e0,e1,e2,e3,e4,e5,e6,e7,e8,e9⟩:=lm rc hj;have bj:(j:Int)<(n:Int):=dP;have hd:decide ((0:Int)<=(j:Int)/\(j:Int)<=(n:Int) - 1)=true:=jg;clear hx hk;go_enter func66,ntmps66;go_wp2_with fail;refine(gj _ _ _ _).mono ?_;rintro e w1 ⟨rfl,rfl⟩;go_wp2_with fail;all_goals (go_ret;exact⟨rfl,q0⟩)
 ·have hd:decide ((0:Int)<=k/\k<=(n:Int) - 1)=false:=jg;clear hk;go_enter func66,ntmps66;go_wp2_with fail;refine(gj _ _ _ _).mono ?_;rintro e w1 ⟨rfl,rfl⟩;go_wp2_with fail;all_goals (go_ret;exact⟨rfl,q0⟩)
theorem BE (h:Hp) (d:Nat) (hd:(d:Int)<=100) (hc:(h.cells.length:Int)<=4194304) (ih:∀d',d=d'+1->dpP h d'):dpP h d:=by
 intro nd k cs w sM hr;obtain⟨A,n,c,Am,nm,cm,As,ns,ca,rfl,rc,rn,rs,wc⟩:=iP hr;have hl:=(ef rc).1;rw[au]at hl;have q0:=(Below.refl w.heap.size w).alloc (af _) (.cells #[.slice A n c,.slice Am nm cm,.slice As ns ca,h.copies] 28);have hn:(n:Int)<=4194304:=dP;have Hy:(0:Int)<=nd:=dP;have HND:=aa sM;clear sM;by_cases hk:¬(0<=k/\k<=(n:Int) - 1)
 ·have HZ:=aa (Cy (d:=d) (h:=h) (k:=k) (by simp [nS,zj (h:=h) (k:=k) dP]));have hdd:decide ((0:Int)<=k/\k<=(n:Int) - 1)=false:=jg;clear hl hk;go_enter func66,ntmps66;go_wp2_with fail;refine(gj _ _ _ _).mono ?_;rintro e w1 ⟨rfl,rfl⟩;go_wp2_with fail;all_goals (go_ret;exact⟨dZ HZ.out.symm,q0⟩)
 have hk:0<=k/\k<=(n:Int) - 1:=dP;obtain⟨j,rfl⟩:∃j:Nat,k=j:=⟨k.toNat,by omega⟩;have hdd:decide ((0:Int)<=(j:Int)/\(j:Int)<=(n:Int) - 1)=true:=jg;have hj:j<n:=dP;obtain⟨b,off,x,Ai,ni,ci,Ap,np,cp,An,nn,cn,Ac,nc,cc,Al,nl,cl,Aq,nq,cq,rfl,gD,hx,fE,e0,e1,e2,e3,e4,e5,e6,e7,e8,e9⟩:=lm rc hj;have HX:=aa (iI (h:=h) hx);obtain⟨_,_,_,_,_,_,_,_,_,_,_,_,_,_,_,WQ,Yp,Xi,lK,wcn,rv,rq⟩:=i8 fE;simp only[bF,bG,dy,cO]at lK;obtain⟨⟨rfl,rfl,rfl⟩,⟨rfl,rfl,rfl⟩,⟨rfl,rfl,rfl⟩,⟨rfl,rfl,rfl⟩,⟨rfl,rfl,rfl⟩,rfl,rfl,rfl⟩:=lK;obtain⟨WQ,Yp,Xi,he,_,hqm,hq,_⟩:=(qy _ _ _ _).1 rq;injection he with he;injection he with f1 f2 f3;subst f1 f2 f3
 obtain⟨_,_,_,_,_,_,_,_,_,_,_,_,_,_,_,lK,_,_,rpv,_⟩:=fw rv;simp only[bF,bG,dy,cO]at lK;obtain⟨⟨rfl,rfl,rfl⟩,⟨rfl,rfl,rfl⟩,⟨rfl,rfl,rfl⟩,⟨rfl,rfl,rfl⟩,rfl,rfl,rfl⟩:=lK;have UB:=(ef rpv).1;rw[au]at UB;have HNP:=aa UB;have HQ:=aa hq.len;have hnq:(nq:Int)<=9223372036854775807:=by have:=hqm;have:=(ef rq).2.1;unfold maxLen at*;omega
 have WC:(0:Int)<=(np:Int):=dP;have bj:(j:Int)<(n:Int):=dP;have yb:b<w.heap.size:=gD;have q1:=q0.alloc eA (.cells #[x.count,x.value.kind,.slice Ai ni ci,.slice Ap np cp,.slice An nn cn,.slice Ac nc cc,.slice Al nl cl,x.value.code,x.value.env,.slice Aq nq cq] 43);clear hl hx hk rv rq UB;by_cases hcn:x.count<=0
 ·have HZ:=aa (Cy (d:=d) (h:=h) (k:=(j:Int)) (by rw[HX.out];simp [nS];omega));go_enter func66,ntmps66;go_wp2_with fail;refine(gj _ _ _ _).mono ?_;rintro e w1 ⟨rfl,rfl⟩;go_wp2_with fail;all_goals (go_ret;exact⟨dZ HZ.out.symm,q0⟩)
 by_cases hz:nq=0
 ·have hf:nS d (celD h (j:Int))=true:=by rw[HX.out];simp only[nS,HQ.out,hz];simp;omega
  have HZ:Hid (depD h d (j:Int)=decide (np=0)):=aa (by rw[Dt hf,HX.out,aR.1 (HQ.out.trans hz),HNP.out];rfl);obtain rfl:=hz;clear hf;go_enter func66,ntmps66;go_wp2_with fail;refine(gj _ _ _ _).mono ?_;rintro e w1 ⟨rfl,rfl⟩;go_wp2_with fail;refine aZ 1 ?_;rw[dF];go_wp2_with fail;go_ret;exact⟨dZ (by rw[HZ.out,bg];simp),q1⟩
 have hzp:0<nq:=dP;have kx:Blk ((w.alloc (.cells #[.slice (some ⟨b,off,none⟩) n c,.slice Am nm cm,.slice As ns ca,h.copies] 28)).alloc (.cells #[x.count,x.value.kind,.slice Ai ni ci,.slice Ap np cp,.slice An nn cn,.slice Ac nc cc,.slice Al nl cl,x.value.code,x.value.env,.slice Aq nq cq] 43)) (w.heap.size+1) 43 [x.count,x.value.kind,.slice Ai ni ci,.slice Ap np cp,.slice An nn cn,.slice Ac nc cc,.slice Al nl cl,x.value.code,x.value.env,.slice Aq nq cq]:=by have:=Blk.new' (w:=w.alloc (.cells #[.slice (some ⟨b,off,none⟩) n c,.slice Am nm cm,.slice As ns ca,h.copies] 28)) (t:=43) (l:=[.int .i64 x.count,.int .i64 x.value.kind,.slice Ai ni ci,.slice Ap np cp,.slice An nn cn,.slice Ac nc cc,.slice Al nl cl,.int .i64 x.value.code,.int .i64 x.value.env,.slice Aq nq cq]);simpa only[dT]using this
 have kh:Blk ((w.alloc (.cells #[.slice (some ⟨b,off,none⟩) n c,.slice Am nm cm,.slice As ns ca,h.copies] 28)).alloc (.cells #[x.count,x.value.kind,.slice Ai ni ci,.slice Ap np cp,.slice An nn cn,.slice Ac nc cc,.slice Al nl cl,x.value.code,x.value.env,.slice Aq nq cq] 43)) w.heap.size 28 [.slice (some ⟨b,off,none⟩) n c,.slice Am nm cm,.slice As ns ca,h.copies]:=(Blk.new' (l:=[.slice (some ⟨b,off,none⟩) n c,.slice Am nm cm,.slice As ns ca,.int .i64 h.copies])).al;by_cases hbad:x.value.kind≠4\/40<nq
 ·have HZ:=aa (Cy (d:=d) (h:=h) (k:=(j:Int)) sE);rcases(show (x.value.kind != 4)=true\/((x.value.kind != 4)=false/\(40:Int)<nq) by
   by_cases a4:x.value.kind=4
   ·right;exact⟨by simpa using a4,by omega⟩
   ·left;simpa using a4) with t4|⟨t4,t40⟩
  all_goals
   clear hbad hz;go_enter func66,ntmps66;go_wp2_with fail;refine(gj _ _ _ _).mono ?_;rintro e w1 ⟨rfl,rfl⟩;go_wp2_with fail;refine aZ 1 ?_;rw[dF];go_wp2_with fail;go_quiet (fail);go_wp2_with fail;go_ret;exact⟨dZ HZ.out.symm,pS q1 _⟩
 have t4:(x.value.kind != 4)=false:=dS;have t40:decide ((40:Int)<(nq:Int))=false:=dS;have QO:Hid (depD h d (j:Int)=(decide (d≠0)&&(x.parts.all (depD h (d - 1))&&decide (np=0)))):=aa (by
  by_cases h0:d=0
  ·rw[Cy sE];simp [h0]
  ·rw[Dt sE,HX.out,HNP.out];simp [h0])
 have xo:=aa ih;have HNG:=aa (Lh h hc);have HR:=aa hr;clear ih hbad hz hr;go_enter func66,ntmps66;go_wp2_with fail;refine(gj _ _ _ _).mono ?_;rintro e w1 ⟨rfl,rfl⟩;go_wp2_with fail;clear e0 e1 e2 e3 e4 e5 e6 e7 e8 e9 hdd;go_loopw [8] (λv8 wr=>∃m:Nat,m<=nq/\v8= .int .i64 m/\(x.parts.take m).all (depD h (d - 1))=true/\(d=0->m=0)/\Blk wr w.heap.size 28 [.slice (some ⟨b,off,none⟩) n c,.slice Am nm cm,.slice As ns ca,h.copies]/\Blk wr (w.heap.size+1) 43 [x.count,x.value.kind,.slice Ai ni ci,.slice Ap np cp,.slice An nn cn,.slice Ac nc cc,.slice Al nl cl,x.value.code,x.value.env,.slice Aq nq cq]/\Below w.heap.size w wr) (λv8 _=>nq - (intOf v8).toNat)
 case atStart=>exact⟨0,by omega,rfl,by simp,λ_=>rfl,kh,kx,q1⟩
 case round=>
  clear kh kx q1;obtain⟨m,hm,rfl,jb,Pt,kh,kx,bb⟩:=hrel;obtain⟨g0,g1,g2,g3⟩:=kh.c4;have f1:=kx.cell 1;have f3:=kx.cell 3;have f9:=kx.cell 9;simp only[ah,ag]at f1 f3 f9;have Kw:=aa jb;have HM0:=aa Pt;have y0:w.heap.size<wr.heap.size:=kh.lt;have y1:w.heap.size+1<wr.heap.size:=kx.lt;clear jb Pt;by_cases hlt:m<nq
  ·obtain⟨b2,o2,y,rfl,jS,hy,hc2⟩:=(hq.below bb).at_ hlt;have c2:=hc2 0 _ rfl;simp only[cu,cF]at c2;have HY:=aa hy;have ry:=fb HR.out bb bb.size;have yb2:b2<wr.heap.size:=dP;have im:(m:Int)<(nq:Int):=dP;have im0:(0:Int)<=(m:Int):=dP;clear hc2 hy;have SL:∀W,Below wr.heap.size wr W->Blk W w.heap.size 28 [.slice (some ⟨b,off,none⟩) n c,.slice Am nm cm,.slice As ns ca,h.copies]/\(W.cell? ⟨w.heap.size,0,none⟩=some (.slice (some ⟨b,off,none⟩) n c)/\W.cell? ⟨w.heap.size,1,none⟩=some (.slice Am nm cm)/\W.cell? ⟨w.heap.size,2,none⟩=some (.slice As ns ca)/\W.cell? ⟨w.heap.size,3,none⟩=some (.int .i64 h.copies)/\W.cell? ⟨w.heap.size+1,1,none⟩=some (.int .i64 x.value.kind)/\W.cell? ⟨w.heap.size+1,9,none⟩=some (.slice (some ⟨b2,o2,none⟩) nq cq)/\W.cell? ⟨b2,o2+m,none⟩=some (.int .i64 y)):=λW hW=>
    ⟨kh.next hW,((kh.next hW).c4).1,((kh.next hW).c4).2.1,((kh.next hW).c4).2.2.1,((kh.next hW).c4).2.2.2,(kx.next hW).cell 1,(kx.next hW).cell 9,(hW.cell (p:=⟨b2,o2+m,none⟩) yb2).trans c2⟩
   have S0:=(SL wr.drew (Below.refl _ _).drew).2;have xp:=aa SL;clear SL;by_cases h0:d=0
   ·have sM:nd=0:=by rw[HND.out,h0];rfl
    subst sM;go_wp2_with fail;go_region_held3 (λW=>W.cell? ⟨w.heap.size,0,none⟩=some (.slice (some ⟨b,off,none⟩) n c)/\W.cell? ⟨w.heap.size,1,none⟩=some (.slice Am nm cm)/\W.cell? ⟨w.heap.size,2,none⟩=some (.slice As ns ca)/\W.cell? ⟨w.heap.size,3,none⟩=some (.int .i64 h.copies)/\W.cell? ⟨w.heap.size+1,1,none⟩=some (.int .i64 x.value.kind)/\W.cell? ⟨w.heap.size+1,9,none⟩=some (.slice (some ⟨b2,o2,none⟩) nq cq)/\W.cell? ⟨b2,o2+m,none⟩=some (.int .i64 y))
     (first|exact S0|exact S2)
     (first|(go_at_call 66;refine(HNG.out y _ _ (kK ry)).mono ?_;rintro e w3 ⟨rfl,lE⟩;have xK:=((Below.refl wr.heap.size wr).drew).trans lE;have S2:=(xp.out w3 xK).2))
    go_wp2_with fail;go_ret;exact⟨dZ (by rw[QO.out];simp [h0]),ij bb xK⟩
   ·obtain⟨d',rfl⟩:∃d',d=d'+1:=⟨d - 1,by omega⟩;have HP:=aa (xo.out d' rfl);have hw1:IntKind.i64.wrap (nd - 1)=nd - 1:=IntWalk.i64_in _ (by have:=HND.out;omega);have HN1:Hid (nd - 1=(d':Int)):=aa (by have:=HND.out;omega);clear h0;go_wp2_with fail;go_region_held3 (λW=>W.cell? ⟨w.heap.size,0,none⟩=some (.slice (some ⟨b,off,none⟩) n c)/\W.cell? ⟨w.heap.size,1,none⟩=some (.slice Am nm cm)/\W.cell? ⟨w.heap.size,2,none⟩=some (.slice As ns ca)/\W.cell? ⟨w.heap.size,3,none⟩=some (.int .i64 h.copies)/\W.cell? ⟨w.heap.size+1,1,none⟩=some (.int .i64 x.value.kind)/\W.cell? ⟨w.heap.size+1,9,none⟩=some (.slice (some ⟨b2,o2,none⟩) nq cq)/\W.cell? ⟨b2,o2+m,none⟩=some (.int .i64 y))
     (first|exact S0|exact S2)
     (first|(go_at_call 66;refine(HP.out (nd - 1) y _ _ HN1.out (kK ry)).mono ?_;rintro e w3 ⟨rfl,lE⟩;have xK:=((Below.refl wr.heap.size wr).drew).trans lE;have S2:=(xp.out w3 xK).2))
    cases hfy:depD h d' y
    ·have HF:=aa hfy;clear hfy;go_wp2_with fail;go_ret;exact⟨dZ (by rw[QO.out,show x.parts.all (depD h (d'+1 - 1))=false from nN HY.out HF.out];simp),ij bb xK⟩
    ·have HF:=aa hfy;clear hfy;go_wp2_with fail;go_roundw
     case rel=>exact⟨m+1,by omega,by go_num,iY HY.out Kw.out HF.out,λe=>by simp at e,kh.next xK,kx.next xK,ij bb xK⟩
     case measure=>simp [intOf];omega
  ·obtain rfl:m=nq:=dP;go_wp2_with fail;go_ret;refine⟨dZ ?_,bb⟩;have Jy:d≠0:=λe=>by have:=HM0.out e;omega
   have ha:x.parts.all (depD h (d - 1))=true:=by rw[<-Kw.out,aC (by rw[HQ.out];omega)]
   rw[QO.out,ha,bg];simp [Jy]
theorem zO (h:Hp) (hc:(h.cells.length:Int)<=4194304):∀d:Nat,(d:Int)<=100->dpP h d
 |0,hd=>BE h 0 hd hc (λd' e=>by omega)
 |d+1,hd=>BE h (d+1) hd hc (λd' e=>by obtain rfl:d=d':=dP;exact zO h hc d dP)
theorem Oe (h:Hp) (c:Cel) (g:Nat) (F Fc:List Nat) (cc:List Value) (w:World) (H:HB w g h F) (oc:own prog w c.toD 43 Fc cc) (hd:∀y∈Fc,y ∉ g::F) (hn:Fc.Nodup) (hl:(h.cells.length:Int)<=1073741824):
 Calls prog 104 #[.pointer (some ⟨g,0,none⟩),.agg cc.toArray] w λe w'=>e= .returned (.int .i64 (gH h c).2)/\∃F',HB w' g (gH h c).1 F'/\(∀y∈F',y∈F\/y∈Fc\/w.heap.size<=y)/\Mod (g::F) w w':=by
 have hlc:=gC oc;obtain⟨Bi,mi,di,Bp,mp,dp,Bn,mn,dn,Bc,mc,dc,Bl,ml,dl,Bq,mq,dq,G1,G2,G3,G4,G5,G6,rfl,rfl,p1,p2,p3,p4,p5,p6⟩:=jp oc;obtain⟨G,hG⟩:∃G,G=(G1++(G2++(G3++(G4++(G5++[])))))++(G6++[]):=⟨_,rfl⟩;rw[<-hG]at hd hn oc hlc ⊢;clear p1 p2 p3 p4 p5 p6 hG G1 G2 G3 G4 G5 G6;have x1:Below w.heap.size w (w.alloc (.cells #[c.count,c.value.kind,.slice Bi mi di,.slice Bp mp dp,.slice Bn mn dn,.slice Bc mc dc,.slice Bl ml dl,c.value.code,c.value.env,.slice Bq mq dq] 43)):=(Below.refl w.heap.size w).alloc (af _) _;have Yr:own prog (w.alloc (.cells #[c.count,c.value.kind,.slice Bi mi di,.slice Bp mp dp,.slice Bn mn dn,.slice Bc mc dc,.slice Bl ml dl,c.value.code,c.value.env,.slice Bq mq dq] 43)) (Cel.toD c) 43 G [c.count,c.value.kind,.slice Bi mi di,.slice Bp mp dp,.slice Bn mn dn,.slice Bc mc dc,.slice Bl ml dl,c.value.code,c.value.env,.slice Bq mq dq]:=fK oc;have ahr:Lo w.heap.size G:=hlc;have H1:HB (w.alloc (.cells #[c.count,c.value.kind,.slice Bi mi di,.slice Bp mp dp,.slice Bn mn dn,.slice Bc mc dc,.slice Bl ml dl,c.value.code,c.value.env,.slice Bq mq dq] 43)) g h F:=H.next x1;have k3:Blk (w.alloc (.cells #[c.count,c.value.kind,.slice Bi mi di,.slice Bp mp dp,.slice Bn mn dn,.slice Bc mc dc,.slice Bl ml dl,c.value.code,c.value.env,.slice Bq mq dq] 43)) w.heap.size 43 [c.count,c.value.kind,.slice Bi mi di,.slice Bp mp dp,.slice Bn mn dn,.slice Bc mc dc,.slice Bl ml dl,c.value.code,c.value.env,.slice Bq mq dq]:=Blk.new' (l:=[.int .i64 c.count,.int .i64 c.value.kind,.slice Bi mi di,.slice Bp mp dp,.slice Bn mn dn,.slice Bc mc dc,.slice Bl ml dl,.int .i64 c.value.code,.int .i64 c.value.env,.slice Bq mq dq]);have JA:=H.lt;obtain⟨W,hW⟩:∃W,W=(w.alloc (.cells #[c.count,c.value.kind,.slice Bi mi di,.slice Bp mp dp,.slice Bn mn dn,.slice Bc mc dc,.slice Bl ml dl,c.value.code,c.value.env,.slice Bq mq dq] 43)):=⟨_,rfl⟩;obtain⟨Ac,nc,nd,An,nn,na,As,ns,nb,Fa,Fb,Fs,kB,hF,o1,o2,o3,wf⟩:=H1.open_;have gK:=ef (eW _ _ _ _ o1);rw[au]at gK;have Nh:(nc:Int)<=1073741824:=dP;have HL:=aa gK;have zW:(w.alloc (.cells #[c.count,c.value.kind,.slice Bi mi di,.slice Bp mp dp,.slice Bn mn dn,.slice Bc mc dc,.slice Bl ml dl,c.value.code,c.value.env,.slice Bq mq dq] 43)).heap.size=w.heap.size+1:=by simp only[dT,dX]
 clear gK;obtain⟨g0,g1,g2,g3⟩:=kB.c4;go_enter func104,ntmps104;go_wp2_with fail;rw[<-hW]at x1 Yr H1 k3 kB zW o1 o2 o3 g0 g1 g2 g3 ⊢;clear hW oc hlc;go_loopw [11] (λv wr=>∃j:Nat,j<=nc/\v= .int .i64 j/\wr=W/\gy h.cells 0=gy (h.cells.drop j) j) (λv _=>nc - (intOf v).toNat)
 case atStart=>exact⟨0,by omega,rfl,rfl,rfl⟩
 case round=>
  obtain⟨j,hj,rfl,rfl,hff⟩:=hrel;by_cases hlt:j<nc
  ·obtain⟨x,hx⟩:∃x,h.cells[j]?=some x:=⟨_,aw (by rw[HL.out.1];exact hlt)⟩;have XI:=uZ hx;obtain⟨bc,JS,nd',Ct,CE,na',Wl,WG,nb',Fx,cx,pre,post,IG,hl',hm',ox,Ix,Zw,hp,hB,Po,qo,ZK,Zz,Lb⟩:=H1.cell_ hx;obtain⟨rfl,rfl,rfl,rfl,rfl,rfl,rfl,rfl,rfl⟩:=pz kB IG;obtain⟨Ei,ui,vi,Ep,up,vp,En,un,vn,Ec,uc,vc,El,ul,vl,Eq,uq,vq,G1,G2,G3,G4,G5,G6,rfl,hFx,-,-,-,-,-,-⟩:=jp ox;obtain⟨e0,e1,e2,e3,e4,e5,e6,e7,e8,e9⟩:=hB.e10 hp;obtain⟨f0,f1,f2,f3,f4,f5,f6,f7,f8,f9⟩:=hB.fr10 (m:=j*10);have HX:=aa hx;clear hx hl' hFx IG;by_cases hz:x.count=0
   ·have UJ:gH h c=(eG h j c,(j:Int)):=by unfold gH;rw[hff,XI,aN hz]
    have d0:(x.count==0)=true:=by simp [hz]
    have W6:=aa UJ;have uK:bc<w.heap.size:=by have:=H.lo bc (aP _ Po);exact this
    have hbn:bc≠w.heap.size:=dP;clear hff XI hz UJ;obtain⟨a0,a1,a2,a3,a4,a5,a6,a7,a8,a9⟩:=k3.d10;go_wp2_with fail;refine bu ?_;refine aW (S:=λV=>V.cell? ⟨g,0,none⟩=some (.slice (some ⟨bc,0,none⟩) nc nd)/\V.cell? ⟨w.heap.size,0,none⟩=some (.int .i64 c.count)/\V.cell? ⟨w.heap.size,1,none⟩=some (.int .i64 c.value.kind)/\V.cell? ⟨w.heap.size,2,none⟩=some (.slice Bi mi di)/\V.cell? ⟨w.heap.size,3,none⟩=some (.slice Bp mp dp)/\V.cell? ⟨w.heap.size,4,none⟩=some (.slice Bn mn dn)/\V.cell? ⟨w.heap.size,5,none⟩=some (.slice Bc mc dc)/\V.cell? ⟨w.heap.size,6,none⟩=some (.slice Bl ml dl)/\V.cell? ⟨w.heap.size,7,none⟩=some (.int .i64 c.value.code)/\V.cell? ⟨w.heap.size,8,none⟩=some (.int .i64 c.value.env)/\V.cell? ⟨w.heap.size,9,none⟩=some (.slice Bq mq dq)) dU ⟨g0,a0,a1,a2,a3,a4,a5,a6,a7,a8,a9⟩ (λhH=>?_);refine ey 0 ?_;refine ey 1 ?_;refine ey 2 ?_;refine ey 3 ?_;refine ey 4 ?_;refine ey 5 ?_;refine ey 6 ?_;refine fZ 7 ?_;intro K hK;go_simp;have Vi:Mod [bc] wr ((((((((((wr.setCell ⟨bc,j*10,none⟩ (.int .i64 c.count)).setCell ⟨bc,j*10+1,none⟩ (.int .i64 c.value.kind)).setCell ⟨bc,j*10+2,none⟩ (.slice Bi mi di)).setCell ⟨bc,j*10+3,none⟩ (.slice Bp mp dp)).setCell ⟨bc,j*10+4,none⟩ (.slice Bn mn dn)).setCell ⟨bc,j*10+5,none⟩ (.slice Bc mc dc)).setCell ⟨bc,j*10+6,none⟩ (.slice Bl ml dl)).setCell ⟨bc,j*10+7,none⟩ (.int .i64 c.value.code)).setCell ⟨bc,j*10+8,none⟩ (.int .i64 c.value.env)).setCell ⟨bc,j*10+9,none⟩ (.slice Bq mq dq)):=Q3 dR;have md:Mod [bc] wr ((((((((((wr.setCell ⟨bc,j*10,none⟩ (.int .i64 c.count)).setCell ⟨bc,j*10+1,none⟩ (.int .i64 c.value.kind)).setCell ⟨bc,j*10+2,none⟩ (.slice Bi mi di)).setCell ⟨bc,j*10+3,none⟩ (.slice Bp mp dp)).setCell ⟨bc,j*10+4,none⟩ (.slice Bn mn dn)).setCell ⟨bc,j*10+5,none⟩ (.slice Bc mc dc)).setCell ⟨bc,j*10+6,none⟩ (.slice Bl ml dl)).setCell ⟨bc,j*10+7,none⟩ (.int .i64 c.value.code)).setCell ⟨bc,j*10+8,none⟩ (.int .i64 c.value.env)).setCell ⟨bc,j*10+9,none⟩ (.slice Bq mq dq)).drew:=gU Vi (Below.refl _ _).drew;have rN:Mod (bc::Fx) wr _:=md.mono dR;have kg:=Blk.mod (g:=g) kB md (by simpa using Zz);have kb:=Blk.mod (g:=w.heap.size) k3 md dS;obtain⟨a0,a1,a2,a3,a4,a5,a6,a7,a8,a9⟩:=kb.d10;obtain⟨g0,g1,g2,g3⟩:=kg.c4;refine hK _ _ ⟨⟨g0,a0,a1,a2,a3,a4,a5,a6,a7,a8,a9⟩,?_⟩;refine iW ?_;refine bv dU ?_ _;refine ba ?_;go_wp2_with fail;go_ret;rw[W6.out];obtain⟨F',HF,xR⟩:=Lb _ c _ G rfl (fH Yr md (λy hy hm=>hd y hy (aP _ (by simp at hm;subst hm;exact Po)))) hn (λy hy=> .inr (hd y hy)) (Blk.put10 hB hp).dw rN;refine⟨rfl,F',HF,λy hy=>?_,?_⟩
    ·rcases xR y hy with h1|h1
     ·exact .inr (.inl h1)
     ·exact .inl h1.1
    ·exact GQ
   ·have d0:(x.count==0)=false:=by simp [hz]
    rw[XI,aH hz]at hff;have HFF:=aa hff;clear hz hff XI;go_wp2_with fail;go_roundw
    case rel=>exact⟨j+1,by omega,by go_num,bO,HFF.out⟩
    case measure=>simp [intOf];omega
  ·obtain rfl:j=nc:=dP;have UJ:gH h c=({h with cells:=h.cells++[c]},(j:Int)):=BM;have W6:=aa UJ;have hgw:g<w.heap.size:=H.lt;clear UJ hff;obtain⟨a0,a1,a2,a3,a4,a5,a6,a7,a8,a9⟩:=k3.d10;go_wp2_with fail;refine bu ?_;refine aW (S:=λV=>V.cell? ⟨w.heap.size,0,none⟩=some (.int .i64 c.count)/\V.cell? ⟨w.heap.size,1,none⟩=some (.int .i64 c.value.kind)/\V.cell? ⟨w.heap.size,2,none⟩=some (.slice Bi mi di)/\V.cell? ⟨w.heap.size,3,none⟩=some (.slice Bp mp dp)/\V.cell? ⟨w.heap.size,4,none⟩=some (.slice Bn mn dn)/\V.cell? ⟨w.heap.size,5,none⟩=some (.slice Bc mc dc)/\V.cell? ⟨w.heap.size,6,none⟩=some (.slice Bl ml dl)/\V.cell? ⟨w.heap.size,7,none⟩=some (.int .i64 c.value.code)/\V.cell? ⟨w.heap.size,8,none⟩=some (.int .i64 c.value.env)/\V.cell? ⟨w.heap.size,9,none⟩=some (.slice Bq mq dq)) dU ⟨a0,a1,a2,a3,a4,a5,a6,a7,a8,a9⟩ (λhH=>?_);have hwb:wr.heap.size=w.heap.size+1:=zW;have x3:Below wr.heap.size wr (wr.alloc (.cells #[c.count,c.value.kind,.slice Bi mi di,.slice Bp mp dp,.slice Bn mn dn,.slice Bc mc dc,.slice Bl ml dl,c.value.code,c.value.env,.slice Bq mq dq] 43)).drew:=((Below.refl _ _).alloc (af _) _).drew;have kg:=kB.next x3;have kb:=k3.next x3;have kn:Blk (wr.alloc (.cells #[c.count,c.value.kind,.slice Bi mi di,.slice Bp mp dp,.slice Bn mn dn,.slice Bc mc dc,.slice Bl ml dl,c.value.code,c.value.env,.slice Bq mq dq] 43)).drew wr.heap.size 43 [c.count,c.value.kind,.slice Bi mi di,.slice Bp mp dp,.slice Bn mn dn,.slice Bc mc dc,.slice Bl ml dl,c.value.code,c.value.env,.slice Bq mq dq]:=(Blk.new' (l:=[.int .i64 c.count,.int .i64 c.value.kind,.slice Bi mi di,.slice Bp mp dp,.slice Bn mn dn,.slice Bc mc dc,.slice Bl ml dl,.int .i64 c.value.code,.int .i64 c.value.env,.slice Bq mq dq])).dw;rw[hwb]at kn;have sM:=H1.nd;have XR:=H1.lo;subst hF;refine ey 0 ?_;refine ey 1 ?_;refine ey 2 ?_;refine ey 3 ?_;refine ey 5 ?_;refine dG (rs:=[4,6]) dU dR (λi hi=>?_);simp only[aX,df,or_false]at hi;rcases hi with rfl|rfl;all_goals refine dD gO (λK hK=>?_)
   ·go_simp;refine hK _ _ ⟨k3.dw.d10,?_⟩;refine iW ?_;refine fZ 6 ?_;intro K hK;go_simp;refine hK _ _ ⟨kb.d10,?_⟩;refine iW ?_;refine fZ 7 ?_;intro K hK;refine gL (A:=Ac) (n:=j) (c:=nd) (b:=w.heap.size+1) (m:=1) (xs:=h.cells.map Cel.toD) (F:=Fa) (d:=Cel.toD c) (F':=G) (te:=43) (cs:=[.int .i64 c.count,.int .i64 c.value.kind,.slice Bi mi di,.slice Bp mp dp,.slice Bn mn dn,.slice Bc mc dc,.slice Bl ml dl,.int .i64 c.value.code,.int .i64 c.value.env,.slice Bq mq dq]) Bg ?_ ?_ (.tmp 36) (.tmp 38) ?_ ?_ ?_ ?_ ?_ ?_ ?_ ?_ ?_ ?_ ?_
    ·kernel_rfl
    ·rfl
    ·rfl
    ·rfl
    ·exact em o1 x3
    ·rfl
    ·exact kn
    ·exact em Yr x3
    ·rfl
    ·exact uy
    ·exact g8
    ·omega
    intro gg gc w3 F3 Vq ap md;have Lg:=Blk.mod (g:=g) kg md (λhm=>(aQ.1 sM).1 eV);have tz:=Blk.mod (g:=w.heap.size) kb md (λhm=>by have:=H.lo w.heap.size eV;omega);have z3:=md.size;simp only[dW,dT]at z3;have hg3:g<w3.heap.size:=Lg.lt;have fz3:=Lg.frozen 0;obtain⟨h0,h1,h2,h3⟩:=Lg.c4;have S3:=tz.d10;refine hK _ _ ⟨S3,?_⟩;refine iW ?_;refine ey 8 ?_;refine ey 9 ?_;refine fZ 10 ?_;intro K hK;go_simp;have kb4:=Blk.pk (p:=⟨g,0,none⟩) (u:= .slice (some ⟨gg,0,none⟩) (j+1) gc) (by show g≠_;omega) tz;have U_:=Lg.set_ 0 (.slice (some ⟨gg,0,none⟩) (j+1) gc);obtain⟨h0',-,-,-⟩:=Blk.c4 (b:= .slice An nn na) (c:= .slice As ns nb) (d:= .int .i64 h.copies) U_;refine hK _ _ ⟨kb4.d10,?_⟩;refine iW ?_;refine bv dU ?_ _;refine ba ?_;clear h0 h1 h2 h3 S3;go_wp2_with fail;go_ret;rw[W6.out];have Ox:=(aQ.1 sM).1;have nF:=aE.1 (aQ.1 sM).2;have hF3:∀y∈F3,y∈Fa\/(y∈G/\y ∉ g::(Fa++(Fb++(Fs++[]))))\/y=w.heap.size+1+1:=λy hy=>uD;have XJ:g ∉ F3:=λhm=>uw;have hlF:∀y∈g::(Fa++(Fb++(Fs++[]))),y<w.heap.size:=H.lo;have PP:=ft (p:=⟨g,0,none⟩) (u:= .slice (some ⟨gg,0,none⟩) (j+1) gc) (fH (em o2 x3) md (λy hy hm=>nF.2.2 y hm y eK rfl)) (λhm=>Ox eV);have PQ:=ft (p:=⟨g,0,none⟩) (u:= .slice (some ⟨gg,0,none⟩) (j+1) gc) (fH (em o3 x3) md (λy hy hm=>nF.2.2 y hm y eK rfl)) (λhm=>Ox eV);refine⟨eZ dP,_,HB.shut (h:={h with cells:=h.cells++[c]}) U_ sw PP PQ wf ?_,λy hy=>?_,?_⟩
    ·exact uF
    ·exact uk
    ·exact ut
   ·go_simp;refine hK _ _ ⟨kb.d10,?_⟩;refine iW ?_;refine fZ 4 ?_;intro K hK;obtain⟨h0,-,-,-⟩:=kg.c4;go_simp;refine hK _ _ ⟨kb.d10,?_⟩;refine iW ?_;refine fZ 7 ?_;intro K hK;refine gL (A:=Ac) (n:=j) (c:=nd) (b:=w.heap.size+1) (m:=1) (xs:=h.cells.map Cel.toD) (F:=Fa) (d:=Cel.toD c) (F':=G) (te:=43) (cs:=[.int .i64 c.count,.int .i64 c.value.kind,.slice Bi mi di,.slice Bp mp dp,.slice Bn mn dn,.slice Bc mc dc,.slice Bl ml dl,.int .i64 c.value.code,.int .i64 c.value.env,.slice Bq mq dq]) Bg ?_ ?_ (.tmp 36) (.tmp 38) ?_ ?_ ?_ ?_ ?_ ?_ ?_ ?_ ?_ ?_ ?_
    ·kernel_rfl
    ·rfl
    ·rfl
    ·rfl
    ·exact em o1 x3
    ·rfl
    ·exact kn
    ·exact em Yr x3
    ·rfl
    ·exact uy
    ·exact g8
    ·omega
    intro gg gc w3 F3 Vq ap md;have Lg:=Blk.mod (g:=g) kg md (λhm=>(aQ.1 sM).1 eV);have tz:=Blk.mod (g:=w.heap.size) kb md (λhm=>by have:=H.lo w.heap.size eV;omega);have z3:=md.size;simp only[dW,dT]at z3;have hg3:g<w3.heap.size:=Lg.lt;have fz3:=Lg.frozen 0;obtain⟨h0,h1,h2,h3⟩:=Lg.c4;have S3:=tz.d10;refine hK _ _ ⟨S3,?_⟩;refine iW ?_;refine ey 8 ?_;refine ey 9 ?_;refine fZ 10 ?_;intro K hK;go_simp;have kb4:=Blk.pk (p:=⟨g,0,none⟩) (u:= .slice (some ⟨gg,0,none⟩) (j+1) gc) (by show g≠_;omega) tz;have U_:=Lg.set_ 0 (.slice (some ⟨gg,0,none⟩) (j+1) gc);obtain⟨h0',-,-,-⟩:=Blk.c4 (b:= .slice An nn na) (c:= .slice As ns nb) (d:= .int .i64 h.copies) U_;refine hK _ _ ⟨kb4.d10,?_⟩;refine iW ?_;refine bv dU ?_ _;refine ba ?_;clear h0 h1 h2 h3 S3;go_wp2_with fail;go_ret;rw[W6.out];have Ox:=(aQ.1 sM).1;have nF:=aE.1 (aQ.1 sM).2;have hF3:∀y∈F3,y∈Fa\/(y∈G/\y ∉ g::(Fa++(Fb++(Fs++[]))))\/y=w.heap.size+1+1:=λy hy=>uD;have XJ:g ∉ F3:=λhm=>uw;have hlF:∀y∈g::(Fa++(Fb++(Fs++[]))),y<w.heap.size:=H.lo;have PP:=ft (p:=⟨g,0,none⟩) (u:= .slice (some ⟨gg,0,none⟩) (j+1) gc) (fH (em o2 x3) md (λy hy hm=>nF.2.2 y hm y eK rfl)) (λhm=>Ox eV);have PQ:=ft (p:=⟨g,0,none⟩) (u:= .slice (some ⟨gg,0,none⟩) (j+1) gc) (fH (em o3 x3) md (λy hy hm=>nF.2.2 y hm y eK rfl)) (λhm=>Ox eV);refine⟨eZ dP,_,HB.shut (h:={h with cells:=h.cells++[c]}) U_ sw PP PQ wf ?_,λy hy=>?_,?_⟩
    ·exact uF
    ·exact uk
    ·exact ut
def EN (f:Nat):Prop:=∀(h:Hp) (k:Int) (g:Nat) (F:List Nat) (w:World),HB w g h F->relOK f h k->Calls prog 103 #[.pointer (some ⟨g,0,none⟩),k] w λe w'=>e= .returned (.tuple #[])/\∃F',HB w' g (iD f h k) F'/\Sub w.heap.size F F'/\Mod (g::F) w w'
theorem PZ (f:Nat) (ih:EN f):EN (f+1):=by
 intro h k g F w H jV;rw[relOK]at jV;obtain⟨hin,xe,zN⟩:=jV;obtain⟨i,x,rfl,hil,hx,ld⟩:=kU hin;rw[ld]at xe zN;rw[aU]at zN;have hrd:iD (f+1) h (i:Int)=if 0<x.count - 1 then eG h i (KP x) else x.parts.foldl (iD f) (eG h i lf):=by rw[iD,ld,aU]
 obtain⟨bc,nc,nd,An,nn,na,As,ns,nb,Fx,cx,pre,post,kB,hl,hm,ox,Ix,Zw,hp,hB,Po,qo,ZK,Zz,Lb⟩:=H.cell_ hx;obtain⟨Ei,ui,vi,Ep,up,vp,En,un,vn,Ec,uc,vc,El,ul,vl,Ez,uq,vq,G1,G2,G3,G4,G5,G6,rfl,hFx,q1,q2,q3,q4,q5,q6⟩:=jp ox;obtain⟨e0,e1,e2,e3,e4,e5,e6,e7,e8,e9⟩:=hB.e10 hp;obtain⟨f0,f1,f2,f3,f4,f5,f6,f7,f8,f9⟩:=hB.fr10 (m:=i*10);have hlq:=ef (eW _ _ _ _ q6);rw[au]at hlq;obtain⟨Ww,hb1⟩:=xe;have hlt:(i:Int)<(nc:Int):=dP;have i0:(0:Int)<=(i:Int):=dP;have JA:=H.lt;have hbs:bc<w.heap.size:=H.lo bc (aP _ Po);have HRD:=aa hrd;have xo:=aa ih;have HX:=aa hx;obtain⟨g0,g1,g2,g3⟩:=kB.c4;have HLQ:=aa hlq;have huq:(uq:Int)<=9223372036854775807:=by have:=hlq.2.2;unfold maxLen at this;omega
 have HL:=aa hl;clear hin ld hrd ih hx hlq hl hil q1 q2 q3 q4 q5;by_cases hpos:0<x.count - 1
 ·have HP:=aa hpos;have d1:decide (0<x.count - 1)=true:=by simpa using hpos
  go_enter func103,ntmps103;go_wp2_with fail;refine bM (v:= .tuple #[]) (by simp [results,results103,go_sem]) rfl ?_;rw[HRD.out,aN HP.out];have md:Mod (bc::Fx) w (w.setCell ⟨bc,i*10,none⟩ (.int .i64 (x.count - 1))):=Mod.mono (F:=[bc]) (Mod.poke (F:=[bc]) dR _) dR;obtain⟨F',HF,xR⟩:=Lb _ (KP x) [.int .i64 (x.count - 1),x.value.kind,.slice Ei ui vi,.slice Ep up vp,.slice En un vn,.slice Ec uc vc,.slice El ul vl,x.value.code,x.value.env,.slice Ez uq vq] Fx rfl (fH (F:=[bc]) (Dm ox (kP.2 fP)) (Mod.poke (F:=[bc]) dR _) (λy hy hm=>qo (by simp at hm;subst hm;exact hy))) Ix (λy hy=> .inl hy) (Blk.put_ hB hp (j:=0) dR gO _) md;exact⟨rfl,F',HF,xR.sub (λy hy=> .inl (ZK y hy)),md.mono (λy hy=>aP _ se)⟩
 ·have DO:allOK (relOK f) (iD f) (eG h i lf) x.parts:=by rcases zN with h1|h1;exact absurd h1 hpos;exact h1
  have OR:=aa DO;have HP:=aa hpos;have d1:decide (0<x.count - 1)=false:=by simpa using hpos
  clear zN DO;go_enter func103,ntmps103;go_wp2_with fail;have Vi:Mod [bc] w (((((((((((w.setCell ⟨bc,i*10,none⟩ (.int .i64 (x.count - 1))).setCell ⟨bc,i*10,none⟩ (.int .i64 0)).setCell ⟨bc,i*10+1,none⟩ (.int .i64 0)).setCell ⟨bc,i*10+2,none⟩ (.slice none 0 0)).setCell ⟨bc,i*10+3,none⟩ (.slice none 0 0)).setCell ⟨bc,i*10+4,none⟩ (.slice none 0 0)).setCell ⟨bc,i*10+5,none⟩ (.slice none 0 0)).setCell ⟨bc,i*10+6,none⟩ (.slice none 0 0)).setCell ⟨bc,i*10+7,none⟩ (.int .i64 0)).setCell ⟨bc,i*10+8,none⟩ (.int .i64 0)).setCell ⟨bc,i*10+9,none⟩ (.slice none 0 0)):=iV (Mod.poke (F:=[bc]) dR _) (Q3 dR) (λ_ h=>h);have md:Mod (bc::Fx) w (((((((((((w.setCell ⟨bc,i*10,none⟩ (.int .i64 (x.count - 1))).setCell ⟨bc,i*10,none⟩ (.int .i64 0)).setCell ⟨bc,i*10+1,none⟩ (.int .i64 0)).setCell ⟨bc,i*10+2,none⟩ (.slice none 0 0)).setCell ⟨bc,i*10+3,none⟩ (.slice none 0 0)).setCell ⟨bc,i*10+4,none⟩ (.slice none 0 0)).setCell ⟨bc,i*10+5,none⟩ (.slice none 0 0)).setCell ⟨bc,i*10+6,none⟩ (.slice none 0 0)).setCell ⟨bc,i*10+7,none⟩ (.int .i64 0)).setCell ⟨bc,i*10+8,none⟩ (.int .i64 0)).setCell ⟨bc,i*10+9,none⟩ (.slice none 0 0)):=Vi.mono dR;have hG6:∀y∈G6,y∈Fx:=λy hy=>by rw[hFx];simp [hy]
  have q6':=fH q6 Vi (λy hy hm=>qo (by simp at hm;subst hm;exact hG6 _ hy));obtain⟨F2,H2,TA⟩:=Lb _ lf [.int .i64 0,.int .i64 0,(),(),(),(),(),.int .i64 0,.int .i64 0,()] [] rfl (JY _) List.nodup_nil (λy hy=>by simp at hy) (Blk.put10 (Blk.put_ hB hp (j:=0) (o:=i*10) dR gO _) hp) md;have Bw:∀y∈G6,y ∉ g::F2:=λy hy hm=>GW;have aht:∀y∈G6,y<w.heap.size:=gC q6;obtain⟨W,hW⟩:∃W,W=(((((((((((w.setCell ⟨bc,i*10,none⟩ (.int .i64 (x.count - 1))).setCell ⟨bc,i*10,none⟩ (.int .i64 0)).setCell ⟨bc,i*10+1,none⟩ (.int .i64 0)).setCell ⟨bc,i*10+2,none⟩ (.slice none 0 0)).setCell ⟨bc,i*10+3,none⟩ (.slice none 0 0)).setCell ⟨bc,i*10+4,none⟩ (.slice none 0 0)).setCell ⟨bc,i*10+5,none⟩ (.slice none 0 0)).setCell ⟨bc,i*10+6,none⟩ (.slice none 0 0)).setCell ⟨bc,i*10+7,none⟩ (.int .i64 0)).setCell ⟨bc,i*10+8,none⟩ (.int .i64 0)).setCell ⟨bc,i*10+9,none⟩ (.slice none 0 0)):=⟨_,rfl⟩;have zW:W.heap.size=w.heap.size:=by rw[hW];simp only[dX,dW]
  rw[<-hW]at md q6' H2 ⊢;clear hW Vi g0 g1 g2 g3 e0 e1 e2 e3 e4 e5 e6 e7 e8 e9 f0 f1 f2 f3 f4 f5 f6 f7 f8 f9 kB hB;go_loopw [44] (λv wr=>∃(j:Nat) (F':List Nat),j<=uq/\v= .int .i64 j/\HB wr g ((x.parts.take j).foldl (iD f) (eG h i lf)) F'/\Sub W.heap.size F2 F'/\Mod (g::F2) W wr) (λv _=>uq - (intOf v).toNat)
  case atStart=>exact⟨0,F2,by omega,rfl,H2,Sub.refl,Mod.refl⟩
  case round=>
   obtain⟨j,F',hj,rfl,Hj,sj,mj⟩:=hrel;by_cases hlj:j<uq
   ·obtain⟨A',n',c',he,-,-,hr,-⟩:=(qy _ _ _ _).1 (eW _ _ _ _ (fH q6' mj Bw));injection he with he;injection he with f1 f2 f3;subst f1 f2 f3
    obtain⟨b,off,y,rfl,gD,hy,xO⟩:=hr.atI hlj;have HY:=aa hy;clear hy hr;go_wp2_with fail;refine(xo.out _ y g F' wr Hj (qR OR.out HY.out)).mono ?_;rintro e w3 ⟨rfl,F3,H3,s3,m3⟩;go_wp2_with fail;go_roundw
    case rel=>exact⟨j+1,F3,by omega,by go_num,by rw[rT HY.out];exact H3,sj.trans s3 mj.size,nO mj m3 (kj sj) (af _)⟩
    case measure=>simp [intOf];omega
   ·obtain rfl:j=uq:=dP;go_wp2_with fail;refine bodyPost_end (v:= .tuple #[]) (by simp [results,results103,go_sem]) rfl ?_;rw[aC (by rw[HLQ.out.1];exact af _)]at Hj;rw[HRD.out,aH (by have:=HP.out;omega)];have s2:Sub w.heap.size F F2:=TA.sub (λy hy=>by simp at hy);exact⟨rfl,F',Hj,s2.trans sj dP,nO (md.mono (λy hy=>aP _ se)) mj (kj s2) dP⟩
theorem vN:∀f:Nat,EN f
 |0=>λh k g F w H jV=>by rw[relOK]at jV;exact jV.elim
 |f+1=>PZ f (vN f)
theorem xL (h:Hp) (s:Str) (k:Int) (g:Nat) (F:List Nat) (w:World) (H:HB w g h F) (hs:s.length<=maxLen) (hk:(Lit.int .i64 k).wf=true) (hl:h.names.length=h.slots.length) (hn:(h.names.length:Int)<=1073741824)
 (hR:hasN h s=true->relOK 5 {h with slots:=h.slots.set (ix h.names s 0).toNat k} (slotD h s)):
 Calls prog 39 #[.pointer (some ⟨g,0,none⟩),sv s,k] w λe w'=>e= .returned (.tuple #[])/\∃F',HB w' g (fd h s k) F'/\Sub w.heap.size F F'/\Mod (g::F) w w':=by
 have JA:=H.lt;have XR:=H.lo;have sM:=H.nd;have mT:=pY h.names s 0;cases hb:hasN h s with
 |false=>
  have xe:fd h s k={h with names:=h.names++[s],slots:=h.slots++[k]}:=by unfold fd;rw[aH sk]
  obtain⟨Ac,nc,cc,An,nn,cn,As,ns,cs,Fc,Fn,Fs,kB,rfl,o1,o2,o3,wf⟩:=H.open_;have xf:=ef (eW _ _ _ _ o2);have hl3:=ef (eW _ _ _ _ o3);rw[au]at xf hl3;obtain⟨Ct,CE,Hw,he,-,-,hr,-⟩:=(ls _ _ _ _).1 (eW _ _ _ _ o2);injection he with he;injection he with f1 f2 f3;subst f1 f2 f3
  have R5:=jx An nn cn h.names s w hr dP;have h0:ix h.names s 0<0:=by simp only[hasN,bB]at hb;omega
  have hnn:(nn:Int)<=1073741824:=dP;have hns:(ns:Int)<=1073741824:=dP;have TN:=aa xe;obtain⟨g0,g1,g2,g3⟩:=kB.c4;have fz1:=kB.frozen 1;have fz2:=kB.frozen 2;have nF:=aE.1 (aQ.1 sM).2;have nG:=aE.1 nF.2.1;have Ts:=aa xf;have HL3:=aa hl3;clear hb xe hR hl xf hl3 hr mT hn;go_enter func39,ntmps39;go_wp2_with fail;refine R5.mono ?_;rintro e w1 ⟨rfl,rfl⟩;have x1:Below w.heap.size w (w.alloc (.cells #[sv s] 9)):=(Below.refl _ _).alloc (af _) _;have kn1:Blk (w.alloc (.cells #[sv s] 9)) w.heap.size 9 [sv s]:=Blk.new' (l:=[sv s]);have Ox:=(aQ.1 sM).1;go_wp2_with (first|(at_builtin;refine n8 (xs:=h.names.map D.s) (F:=Fn) (d:=D.s s) (F':=[]) (b:=w.heap.size) (m:=1) (te:=9) (cs:=[sv s]) jm dU rfl _ _ rfl rfl (em o2 x1) rfl kn1 (by rw[own];exact⟨rfl,rfl,hs⟩) rfl (by simpa using nG.1) eb dP ?_;intro gg gc w2 F2 PP ap md;have kg2:=Blk.mod (g:=g) (kB.next x1) md (λhm=>Ox eV);have md1:Mod (g::(Fc++(Fn++(Fs++[])))) w (w2.setCell ⟨g,1,none⟩ (.slice (some ⟨gg,0,none⟩) (nn+1) gc)):=iV (iV (gU Mod.refl x1) md (λy hy=>by simp [hy])) (Mod.poke (F:=g::(Fc++(Fn++(Fs++[])))) dR _) (λ_ h=>h);obtain⟨h0,h1,h2,h3⟩:=kg2.c4;have fg1:=kg2.frozen 1;have fg2:=kg2.frozen 2;obtain⟨F3,H3,s3⟩:=HB.names_app (kB.next x1) (em o1 x1) (em o3 x1) wf sM (XR.mono dR) PP ap md;replace s3:=s3.low (B:=w.heap.size) dR;have hnd3:=H3.nd;have hlo3:=H3.lo;have hgs3:=H3.lt;obtain⟨Ac3,nc3,cc3,An3,nn3,cn3,As3,ns3,cs3,Fc3,Fn3,Fs3,kB3,rfl,p1,p2,p3,Wa⟩:=H3.open_;obtain⟨rfl,rfl,rfl,rfl,rfl,rfl,rfl,rfl,rfl⟩:=pz (h:={h with names:=h.names++[s]}) (kg2.set_ 1 (.slice (some ⟨gg,0,none⟩) (nn+1) gc)) kB3;have zb:=dX w2 ⟨g,1,none⟩ (.slice (some ⟨gg,0,none⟩) (nn+1) gc);simp only[dX]at hlo3 hgs3;have x3:Below w2.heap.size (w2.setCell ⟨g,1,none⟩ (.slice (some ⟨gg,0,none⟩) (nn+1) gc)) ((w2.setCell ⟨g,1,none⟩ (.slice (some ⟨gg,0,none⟩) (nn+1) gc)).alloc (.cells #[k] 3)):=(Below.refl _ _).alloc qm _;have kn3:Blk ((w2.setCell ⟨g,1,none⟩ (.slice (some ⟨gg,0,none⟩) (nn+1) gc)).alloc (.cells #[k] 3)) w2.heap.size 3 [k]:=by(have:=Blk.new' (w:=w2.setCell ⟨g,1,none⟩ (.slice (some ⟨gg,0,none⟩) (nn+1) gc)) (t:=3) (l:=[.int .i64 k]);rwa [zb]at this))|(at_builtin;refine n8 (xs:=h.slots.map (D.i .i64)) (F:=Fs3) (d:=D.i .i64 k) (F':=[]) (b:=w2.heap.size) (m:=1) (te:=3) (cs:=[.int .i64 k]) Kh dU rfl _ _ rfl rfl (fK p3) rfl kn3 (by rw[own];exact⟨rfl,rfl,hk⟩) rfl BQ eb dP ?_;intro gh gd w5 F5 o5 ap5 md5;have kg5:=Blk.mod (g:=g) kB3.al md5 (λhm=>(aQ.1 hnd3).1 eV);obtain⟨h0',h1',h2',h3'⟩:=kg5.c4;have fg5:=kg5.frozen 2));refine bM (v:= .tuple #[]) (by simp [results,results39,go_sem]) rfl ?_;rw[TN.out];obtain⟨F6,H6,s6⟩:=HB.slots_app (h:={h with names:=h.names++[s]}) kB3.al (fK p1) (fK p2) Wa hnd3 (hlo3.mono fC) o5 ap5 md5;replace s6:=s6.low (B:=w2.heap.size) fC;have e1:Fc++(Fn++(Fs++[]))=Fc++(Fn++Fs):=by rw[bP]
  rw[e1]at s3 md1;exact⟨rfl,F6,H6,s3.trans s6 (by have:=md.size;simp only[dT]at this;omega),nO md1 (iV (iV (gU Mod.refl ((Below.refl _ _).alloc (af _) _)) md5 (λy hy=>by simp [hy])) (Mod.poke (F:=g::(Fc3++(Fn3++(Fs3++[])))) dR _) (λ_ h=>h)) (kj s3) (af _)⟩
 |true=>
  have h0:0<=ix h.names s 0:=sk;obtain⟨i,hi⟩:=bQ h0;have hil:i<h.slots.length:=dP;have xe:fd h s k=iD 5 {h with slots:=h.slots.set i k} (slotD h s):=by unfold fd;rw[aN h0,hi,aU]
  have Tu:=hR hb;rw[hi,aU]at Tu;have TB:h.slots[i]?=some (slotD h s):=Ca;obtain⟨y,hy⟩:∃y,y=slotD h s:=⟨_,rfl⟩;rw[<-hy]at Tu TB xe;obtain⟨Ac,nc,cc,An,nn,cn,bs,ns,cs,kB,hsn,hsm,e0,e1,Po,hbg,H1⟩:=H.slot_set TB hk;obtain⟨L4,JS,L7,Ct,CE,Hw,Wl,WG,cs',Fc,Fn,Fs,IG,hF,o1,o2,o3,wf⟩:=H.open_;obtain⟨rfl,rfl,rfl,rfl,rfl,rfl,rfl,rfl,rfl⟩:=pz kB IG;have xf:=ef (eW _ _ _ _ o2);rw[au]at xf;obtain⟨Ct,CE,Hw,he,-,-,hr,-⟩:=(ls _ _ _ _).1 (eW _ _ _ _ o2);injection he with he;injection he with f1 f2 f3;subst f1 f2 f3
  have R5:=jx An nn cn h.names s w hr dP;rw[hi]at R5;have TN:=aa xe;have hlt:(i:Int)<(ns:Int):=dP;have i0:(0:Int)<=(i:Int):=dP;have HR2:=aa Tu;obtain⟨g0,g1,g2,g3⟩:=kB.c4;clear hb xe hR hl xf hr mT hn hi h0 hil TB hy Tu IG hsn o1 o2 o3 hF;go_enter func39,ntmps39;go_wp2_with fail;refine R5.mono ?_;rintro e w1 ⟨rfl,rfl⟩;go_wp2_with fail;refine(vN 5 _ y g F _ H1 HR2.out).mono ?_;rintro e w3 ⟨rfl,F3,H3,s3,m3⟩;go_wp2_with fail;refine bodyPost_end (v:= .tuple #[]) (by simp [results,results39,go_sem]) rfl ?_;rw[TN.out];have md:Mod (g::F) w (w.setCell ⟨bs,i,none⟩ (.int .i64 k)):=Mod.poke (by simp [Po]) _;exact⟨rfl,F3,H3,s3.low qm,nO md m3 Sub.refl (af _)⟩
theorem Eb (h:Hp) (c:Cel) (g:Nat) (F Fc:List Nat) (cc:List Value) (w:World) (H:HB w g h F) (oc:own prog w c.toD 43 Fc cc) (hd:∀y∈Fc,y ∉ g::F) (hn:Fc.Nodup) (hl:(h.cells.length:Int)<=1073741824):
 Calls prog 115 #[.pointer (some ⟨g,0,none⟩),.agg cc.toArray] w λe w'=>e= .returned (.int .i64 (gH h {c with count:=1}).2)/\∃F',HB w' g (gH h {c with count:=1}).1 F'/\(∀y∈F',y∈F\/y∈Fc\/w.heap.size<=y)/\Mod (g::F) w w':=by
 have hlc:=gC oc;obtain⟨Bi,mi,di,Bp,mp,dp,Bn,mn,dn,Bc,mc,dc,Bl,ml,dl,Bq,mq,dq,G1,G2,G3,G4,G5,G6,rfl,rfl,p1,p2,p3,p4,p5,p6⟩:=jp oc;obtain⟨G,hG⟩:∃G,G=(G1++(G2++(G3++(G4++(G5++[])))))++(G6++[]):=⟨_,rfl⟩;rw[<-hG]at hd hn oc hlc ⊢;clear p1 p2 p3 p4 p5 p6 hG G1 G2 G3 G4 G5 G6;have x1:Below w.heap.size w (w.alloc (.cells #[.int .i64 1,c.value.kind,.slice Bi mi di,.slice Bp mp dp,.slice Bn mn dn,.slice Bc mc dc,.slice Bl ml dl,c.value.code,c.value.env,.slice Bq mq dq] 43)):=(Below.refl w.heap.size w).alloc (af _) _;have Yr:own prog (w.alloc (.cells #[.int .i64 1,c.value.kind,.slice Bi mi di,.slice Bp mp dp,.slice Bn mn dn,.slice Bc mc dc,.slice Bl ml dl,c.value.code,c.value.env,.slice Bq mq dq] 43)) (Cel.toD {c with count:=1}) 43 G [.int .i64 1,c.value.kind,.slice Bi mi di,.slice Bp mp dp,.slice Bn mn dn,.slice Bc mc dc,.slice Bl ml dl,c.value.code,c.value.env,.slice Bq mq dq]:=T4 (em oc x1);have ahr:Lo w.heap.size G:=hlc;have H1:HB (w.alloc (.cells #[.int .i64 1,c.value.kind,.slice Bi mi di,.slice Bp mp dp,.slice Bn mn dn,.slice Bc mc dc,.slice Bl ml dl,c.value.code,c.value.env,.slice Bq mq dq] 43)) g h F:=H.next x1;have k3:Blk (w.alloc (.cells #[.int .i64 1,c.value.kind,.slice Bi mi di,.slice Bp mp dp,.slice Bn mn dn,.slice Bc mc dc,.slice Bl ml dl,c.value.code,c.value.env,.slice Bq mq dq] 43)) w.heap.size 43 [.int .i64 1,c.value.kind,.slice Bi mi di,.slice Bp mp dp,.slice Bn mn dn,.slice Bc mc dc,.slice Bl ml dl,c.value.code,c.value.env,.slice Bq mq dq]:=Blk.new' (l:=[.int .i64 1,.int .i64 c.value.kind,.slice Bi mi di,.slice Bp mp dp,.slice Bn mn dn,.slice Bc mc dc,.slice Bl ml dl,.int .i64 c.value.code,.int .i64 c.value.env,.slice Bq mq dq]);have JA:=H.lt;obtain⟨W,hW⟩:∃W,W=(w.alloc (.cells #[.int .i64 1,c.value.kind,.slice Bi mi di,.slice Bp mp dp,.slice Bn mn dn,.slice Bc mc dc,.slice Bl ml dl,c.value.code,c.value.env,.slice Bq mq dq] 43)):=⟨_,rfl⟩;obtain⟨Ac,nc,nd,An,nn,na,As,ns,nb,Fa,Fb,Fs,kB,hF,o1,o2,o3,wf⟩:=H1.open_;have gK:=ef (eW _ _ _ _ o1);rw[au]at gK;have Nh:(nc:Int)<=1073741824:=dP;have HL:=aa gK;have zW:(w.alloc (.cells #[.int .i64 1,c.value.kind,.slice Bi mi di,.slice Bp mp dp,.slice Bn mn dn,.slice Bc mc dc,.slice Bl ml dl,c.value.code,c.value.env,.slice Bq mq dq] 43)).heap.size=w.heap.size+1:=by simp only[dT,dX]
 clear gK;obtain⟨g0,g1,g2,g3⟩:=kB.c4;go_enter func115,ntmps115;go_wp2_with fail;rw[<-hW]at x1 Yr H1 k3 kB zW o1 o2 o3 g0 g1 g2 g3 ⊢;clear hW oc hlc;go_loopw [5] (λv wr=>∃j:Nat,j<=nc/\v= .int .i64 j/\wr=W/\gy h.cells 0=gy (h.cells.drop j) j) (λv _=>nc - (intOf v).toNat)
 case atStart=>exact⟨0,by omega,rfl,rfl,rfl⟩
 case round=>
  obtain⟨j,hj,rfl,rfl,hff⟩:=hrel;by_cases hlt:j<nc
  ·obtain⟨x,hx⟩:∃x,h.cells[j]?=some x:=⟨_,aw (by rw[HL.out.1];exact hlt)⟩;have XI:=uZ hx;obtain⟨bc,JS,nd',Ct,CE,na',Wl,WG,nb',Fx,cx,pre,post,IG,hl',hm',ox,Ix,Zw,hp,hB,Po,qo,ZK,Zz,Lb⟩:=H1.cell_ hx;obtain⟨rfl,rfl,rfl,rfl,rfl,rfl,rfl,rfl,rfl⟩:=pz kB IG;obtain⟨Ei,ui,vi,Ep,up,vp,En,un,vn,Ec,uc,vc,El,ul,vl,Eq,uq,vq,G1,G2,G3,G4,G5,G6,rfl,hFx,-,-,-,-,-,-⟩:=jp ox;obtain⟨e0,e1,e2,e3,e4,e5,e6,e7,e8,e9⟩:=hB.e10 hp;obtain⟨f0,f1,f2,f3,f4,f5,f6,f7,f8,f9⟩:=hB.fr10 (m:=j*10);have HX:=aa hx;clear hx hl' hFx IG;by_cases hz:x.count=0
   ·have UJ:gH h {c with count:=1}=(eG h j {c with count:=1},(j:Int)):=by unfold gH;rw[hff,XI,aN hz]
    have d0:(x.count==0)=true:=by simp [hz]
    have W6:=aa UJ;have uK:bc<w.heap.size:=by have:=H.lo bc (aP _ Po);exact this
    have hbn:bc≠w.heap.size:=dP;clear hff XI hz UJ;obtain⟨a0,a1,a2,a3,a4,a5,a6,a7,a8,a9⟩:=k3.d10;go_wp2_with fail;refine bu ?_;refine aW (S:=λV=>V.cell? ⟨g,0,none⟩=some (.slice (some ⟨bc,0,none⟩) nc nd)/\V.cell? ⟨w.heap.size,0,none⟩=some (.int .i64 1)/\V.cell? ⟨w.heap.size,1,none⟩=some (.int .i64 c.value.kind)/\V.cell? ⟨w.heap.size,2,none⟩=some (.slice Bi mi di)/\V.cell? ⟨w.heap.size,3,none⟩=some (.slice Bp mp dp)/\V.cell? ⟨w.heap.size,4,none⟩=some (.slice Bn mn dn)/\V.cell? ⟨w.heap.size,5,none⟩=some (.slice Bc mc dc)/\V.cell? ⟨w.heap.size,6,none⟩=some (.slice Bl ml dl)/\V.cell? ⟨w.heap.size,7,none⟩=some (.int .i64 c.value.code)/\V.cell? ⟨w.heap.size,8,none⟩=some (.int .i64 c.value.env)/\V.cell? ⟨w.heap.size,9,none⟩=some (.slice Bq mq dq)) dU ⟨g0,a0,a1,a2,a3,a4,a5,a6,a7,a8,a9⟩ (λhH=>?_);refine ey 0 ?_;refine ey 1 ?_;refine ey 2 ?_;refine ey 3 ?_;refine ey 4 ?_;refine ey 5 ?_;refine ey 6 ?_;refine fZ 7 ?_;intro K hK;go_simp;have Vi:Mod [bc] wr ((((((((((wr.setCell ⟨bc,j*10,none⟩ (.int .i64 1)).setCell ⟨bc,j*10+1,none⟩ (.int .i64 c.value.kind)).setCell ⟨bc,j*10+2,none⟩ (.slice Bi mi di)).setCell ⟨bc,j*10+3,none⟩ (.slice Bp mp dp)).setCell ⟨bc,j*10+4,none⟩ (.slice Bn mn dn)).setCell ⟨bc,j*10+5,none⟩ (.slice Bc mc dc)).setCell ⟨bc,j*10+6,none⟩ (.slice Bl ml dl)).setCell ⟨bc,j*10+7,none⟩ (.int .i64 c.value.code)).setCell ⟨bc,j*10+8,none⟩ (.int .i64 c.value.env)).setCell ⟨bc,j*10+9,none⟩ (.slice Bq mq dq)):=Q3 dR;have md:Mod [bc] wr ((((((((((wr.setCell ⟨bc,j*10,none⟩ (.int .i64 1)).setCell ⟨bc,j*10+1,none⟩ (.int .i64 c.value.kind)).setCell ⟨bc,j*10+2,none⟩ (.slice Bi mi di)).setCell ⟨bc,j*10+3,none⟩ (.slice Bp mp dp)).setCell ⟨bc,j*10+4,none⟩ (.slice Bn mn dn)).setCell ⟨bc,j*10+5,none⟩ (.slice Bc mc dc)).setCell ⟨bc,j*10+6,none⟩ (.slice Bl ml dl)).setCell ⟨bc,j*10+7,none⟩ (.int .i64 c.value.code)).setCell ⟨bc,j*10+8,none⟩ (.int .i64 c.value.env)).setCell ⟨bc,j*10+9,none⟩ (.slice Bq mq dq)).drew:=gU Vi (Below.refl _ _).drew;have rN:Mod (bc::Fx) wr _:=md.mono dR;have kg:=Blk.mod (g:=g) kB md (by simpa using Zz);have kb:=Blk.mod (g:=w.heap.size) k3 md dS;obtain⟨a0,a1,a2,a3,a4,a5,a6,a7,a8,a9⟩:=kb.d10;obtain⟨g0,g1,g2,g3⟩:=kg.c4;refine hK _ _ ⟨⟨g0,a0,a1,a2,a3,a4,a5,a6,a7,a8,a9⟩,?_⟩;refine iW ?_;refine bv dU ?_ _;refine ba ?_;go_wp2_with fail;go_ret;rw[W6.out];obtain⟨F',HF,xR⟩:=Lb _ {c with count:=1} _ G rfl (fH Yr md (λy hy hm=>hd y hy (aP _ (by simp at hm;subst hm;exact Po)))) hn (λy hy=> .inr (hd y hy)) (Blk.put10 hB hp).dw rN;refine⟨rfl,F',HF,λy hy=>?_,?_⟩
    ·rcases xR y hy with h1|h1
     ·exact .inr (.inl h1)
     ·exact .inl h1.1
    ·exact GQ
   ·have d0:(x.count==0)=false:=by simp [hz]
    rw[XI,aH hz]at hff;have HFF:=aa hff;clear hz hff XI;go_wp2_with fail;go_roundw
    case rel=>exact⟨j+1,by omega,by go_num,bO,HFF.out⟩
    case measure=>simp [intOf];omega
  ·obtain rfl:j=nc:=dP;have UJ:gH h {c with count:=1}=({h with cells:=h.cells++[{c with count:=1}]},(j:Int)):=BM;have W6:=aa UJ;have hgw:g<w.heap.size:=H.lt;clear UJ hff;obtain⟨a0,a1,a2,a3,a4,a5,a6,a7,a8,a9⟩:=k3.d10;go_wp2_with fail;refine bu ?_;refine aW (S:=λV=>V.cell? ⟨w.heap.size,0,none⟩=some (.int .i64 1)/\V.cell? ⟨w.heap.size,1,none⟩=some (.int .i64 c.value.kind)/\V.cell? ⟨w.heap.size,2,none⟩=some (.slice Bi mi di)/\V.cell? ⟨w.heap.size,3,none⟩=some (.slice Bp mp dp)/\V.cell? ⟨w.heap.size,4,none⟩=some (.slice Bn mn dn)/\V.cell? ⟨w.heap.size,5,none⟩=some (.slice Bc mc dc)/\V.cell? ⟨w.heap.size,6,none⟩=some (.slice Bl ml dl)/\V.cell? ⟨w.heap.size,7,none⟩=some (.int .i64 c.value.code)/\V.cell? ⟨w.heap.size,8,none⟩=some (.int .i64 c.value.env)/\V.cell? ⟨w.heap.size,9,none⟩=some (.slice Bq mq dq)) dU ⟨a0,a1,a2,a3,a4,a5,a6,a7,a8,a9⟩ (λhH=>?_);have hwb:wr.heap.size=w.heap.size+1:=zW;have x3:Below wr.heap.size wr (wr.alloc (.cells #[.int .i64 1,c.value.kind,.slice Bi mi di,.slice Bp mp dp,.slice Bn mn dn,.slice Bc mc dc,.slice Bl ml dl,c.value.code,c.value.env,.slice Bq mq dq] 43)).drew:=((Below.refl _ _).alloc (af _) _).drew;have kg:=kB.next x3;have kb:=k3.next x3;have kn:Blk (wr.alloc (.cells #[.int .i64 1,c.value.kind,.slice Bi mi di,.slice Bp mp dp,.slice Bn mn dn,.slice Bc mc dc,.slice Bl ml dl,c.value.code,c.value.env,.slice Bq mq dq] 43)).drew wr.heap.size 43 [.int .i64 1,c.value.kind,.slice Bi mi di,.slice Bp mp dp,.slice Bn mn dn,.slice Bc mc dc,.slice Bl ml dl,c.value.code,c.value.env,.slice Bq mq dq]:=(Blk.new' (l:=[.int .i64 1,.int .i64 c.value.kind,.slice Bi mi di,.slice Bp mp dp,.slice Bn mn dn,.slice Bc mc dc,.slice Bl ml dl,.int .i64 c.value.code,.int .i64 c.value.env,.slice Bq mq dq])).dw;rw[hwb]at kn;have sM:=H1.nd;have XR:=H1.lo;subst hF;refine ey 0 ?_;refine ey 1 ?_;refine ey 2 ?_;refine ey 3 ?_;refine ey 5 ?_;refine dG (rs:=[4,6]) dU dR (λi hi=>?_);simp only[aX,df,or_false]at hi;rcases hi with rfl|rfl;all_goals refine dD gO (λK hK=>?_)
   ·go_simp;refine hK _ _ ⟨k3.dw.d10,?_⟩;refine iW ?_;refine fZ 6 ?_;intro K hK;go_simp;refine hK _ _ ⟨kb.d10,?_⟩;refine iW ?_;refine fZ 7 ?_;intro K hK;refine gL (A:=Ac) (n:=j) (c:=nd) (b:=w.heap.size+1) (m:=1) (xs:=h.cells.map Cel.toD) (F:=Fa) (d:=Cel.toD {c with count:=1}) (F':=G) (te:=43) (cs:=[.int .i64 1,.int .i64 c.value.kind,.slice Bi mi di,.slice Bp mp dp,.slice Bn mn dn,.slice Bc mc dc,.slice Bl ml dl,.int .i64 c.value.code,.int .i64 c.value.env,.slice Bq mq dq]) Bg ?_ ?_ (.tmp 37) (.tmp 39) ?_ ?_ ?_ ?_ ?_ ?_ ?_ ?_ ?_ ?_ ?_
    ·kernel_rfl
    ·rfl
    ·rfl
    ·rfl
    ·exact em o1 x3
    ·rfl
    ·exact kn
    ·exact em Yr x3
    ·rfl
    ·exact uy
    ·exact g8
    ·omega
    intro gg gc w3 F3 Vq ap md;have Lg:=Blk.mod (g:=g) kg md (λhm=>(aQ.1 sM).1 eV);have tz:=Blk.mod (g:=w.heap.size) kb md (λhm=>by have:=H.lo w.heap.size eV;omega);have z3:=md.size;simp only[dW,dT]at z3;have hg3:g<w3.heap.size:=Lg.lt;have fz3:=Lg.frozen 0;obtain⟨h0,h1,h2,h3⟩:=Lg.c4;have S3:=tz.d10;refine hK _ _ ⟨S3,?_⟩;refine iW ?_;refine ey 8 ?_;refine ey 9 ?_;refine fZ 10 ?_;intro K hK;go_simp;have kb4:=Blk.pk (p:=⟨g,0,none⟩) (u:= .slice (some ⟨gg,0,none⟩) (j+1) gc) (by show g≠_;omega) tz;have U_:=Lg.set_ 0 (.slice (some ⟨gg,0,none⟩) (j+1) gc);obtain⟨h0',-,-,-⟩:=Blk.c4 (b:= .slice An nn na) (c:= .slice As ns nb) (d:= .int .i64 h.copies) U_;refine hK _ _ ⟨kb4.d10,?_⟩;refine iW ?_;refine bv dU ?_ _;refine ba ?_;clear h0 h1 h2 h3 S3;go_wp2_with fail;go_ret;rw[W6.out];have Ox:=(aQ.1 sM).1;have nF:=aE.1 (aQ.1 sM).2;have hF3:∀y∈F3,y∈Fa\/(y∈G/\y ∉ g::(Fa++(Fb++(Fs++[]))))\/y=w.heap.size+1+1:=λy hy=>uD;have XJ:g ∉ F3:=λhm=>uw;have hlF:∀y∈g::(Fa++(Fb++(Fs++[]))),y<w.heap.size:=H.lo;have PP:=ft (p:=⟨g,0,none⟩) (u:= .slice (some ⟨gg,0,none⟩) (j+1) gc) (fH (em o2 x3) md (λy hy hm=>nF.2.2 y hm y eK rfl)) (λhm=>Ox eV);have PQ:=ft (p:=⟨g,0,none⟩) (u:= .slice (some ⟨gg,0,none⟩) (j+1) gc) (fH (em o3 x3) md (λy hy hm=>nF.2.2 y hm y eK rfl)) (λhm=>Ox eV);refine⟨eZ dP,_,HB.shut (h:={h with cells:=h.cells++[{c with count:=1}]}) U_ sw PP PQ wf ?_,λy hy=>?_,?_⟩
    ·exact uF
    ·exact uk
    ·exact ut
   ·go_simp;refine hK _ _ ⟨kb.d10,?_⟩;refine iW ?_;refine fZ 4 ?_;intro K hK;obtain⟨h0,-,-,-⟩:=kg.c4;go_simp;refine hK _ _ ⟨kb.d10,?_⟩;refine iW ?_;refine fZ 7 ?_;intro K hK;refine gL (A:=Ac) (n:=j) (c:=nd) (b:=w.heap.size+1) (m:=1) (xs:=h.cells.map Cel.toD) (F:=Fa) (d:=Cel.toD {c with count:=1}) (F':=G) (te:=43) (cs:=[.int .i64 1,.int .i64 c.value.kind,.slice Bi mi di,.slice Bp mp dp,.slice Bn mn dn,.slice Bc mc dc,.slice Bl ml dl,.int .i64 c.value.code,.int .i64 c.value.env,.slice Bq mq dq]) Bg ?_ ?_ (.tmp 37) (.tmp 39) ?_ ?_ ?_ ?_ ?_ ?_ ?_ ?_ ?_ ?_ ?_
    ·kernel_rfl
    ·rfl
    ·rfl
    ·rfl
    ·exact em o1 x3
    ·rfl
    ·exact kn
    ·exact em Yr x3
    ·rfl
    ·exact uy
    ·exact g8
    ·omega
    intro gg gc w3 F3 Vq ap md;have Lg:=Blk.mod (g:=g) kg md (λhm=>(aQ.1 sM).1 eV);have tz:=Blk.mod (g:=w.heap.size) kb md (λhm=>by have:=H.lo w.heap.size eV;omega);have z3:=md.size;simp only[dW,dT]at z3;have hg3:g<w3.heap.size:=Lg.lt;have fz3:=Lg.frozen 0;obtain⟨h0,h1,h2,h3⟩:=Lg.c4;have S3:=tz.d10;refine hK _ _ ⟨S3,?_⟩;refine iW ?_;refine ey 8 ?_;refine ey 9 ?_;refine fZ 10 ?_;intro K hK;go_simp;have kb4:=Blk.pk (p:=⟨g,0,none⟩) (u:= .slice (some ⟨gg,0,none⟩) (j+1) gc) (by show g≠_;omega) tz;have U_:=Lg.set_ 0 (.slice (some ⟨gg,0,none⟩) (j+1) gc);obtain⟨h0',-,-,-⟩:=Blk.c4 (b:= .slice An nn na) (c:= .slice As ns nb) (d:= .int .i64 h.copies) U_;refine hK _ _ ⟨kb4.d10,?_⟩;refine iW ?_;refine bv dU ?_ _;refine ba ?_;clear h0 h1 h2 h3 S3;go_wp2_with fail;go_ret;rw[W6.out];have Ox:=(aQ.1 sM).1;have nF:=aE.1 (aQ.1 sM).2;have hF3:∀y∈F3,y∈Fa\/(y∈G/\y ∉ g::(Fa++(Fb++(Fs++[]))))\/y=w.heap.size+1+1:=λy hy=>uD;have XJ:g ∉ F3:=λhm=>uw;have hlF:∀y∈g::(Fa++(Fb++(Fs++[]))),y<w.heap.size:=H.lo;have PP:=ft (p:=⟨g,0,none⟩) (u:= .slice (some ⟨gg,0,none⟩) (j+1) gc) (fH (em o2 x3) md (λy hy hm=>nF.2.2 y hm y eK rfl)) (λhm=>Ox eV);have PQ:=ft (p:=⟨g,0,none⟩) (u:= .slice (some ⟨gg,0,none⟩) (j+1) gc) (fH (em o3 x3) md (λy hy hm=>nF.2.2 y hm y eK rfl)) (λhm=>Ox eV);refine⟨eZ dP,_,HB.shut (h:={h with cells:=h.cells++[{c with count:=1}]}) U_ sw PP PQ wf ?_,λy hy=>?_,?_⟩
    ·exact uF
    ·exact uk
    ·exact ut
def vD (f:Nat):Prop:=∀(h:Hp) (k:Int) (g:Nat) (F:List Nat) (w:World),HB w g h F->relOK f h k->Calls prog 58 #[.pointer (some ⟨g,0,none⟩),k] w λe w'=>e= .returned (.tuple #[])/\∃F',HB w' g (iD f h k) F'/\Sub w.heap.size F F'/\Mod (g::F) w w'
theorem IH (f:Nat) (ih:vD f):vD (f+1):=by
 intro h k g F w H jV;rw[relOK]at jV;obtain⟨hin,xe,zN⟩:=jV;obtain⟨i,x,rfl,hil,hx,ld⟩:=kU hin;rw[ld]at xe zN;rw[aU]at zN;have hrd:iD (f+1) h (i:Int)=if 0<x.count - 1 then eG h i (KP x) else x.parts.foldl (iD f) (eG h i lf):=by rw[iD,ld,aU]
 obtain⟨bc,nc,nd,An,nn,na,As,ns,nb,Fx,cx,pre,post,kB,hl,hm,ox,Ix,Zw,hp,hB,Po,qo,ZK,Zz,Lb⟩:=H.cell_ hx;obtain⟨Ei,ui,vi,Ep,up,vp,En,un,vn,Ec,uc,vc,El,ul,vl,Ez,uq,vq,G1,G2,G3,G4,G5,G6,rfl,hFx,q1,q2,q3,q4,q5,q6⟩:=jp ox;obtain⟨e0,e1,e2,e3,e4,e5,e6,e7,e8,e9⟩:=hB.e10 hp;obtain⟨f0,f1,f2,f3,f4,f5,f6,f7,f8,f9⟩:=hB.fr10 (m:=i*10);have hlq:=ef (eW _ _ _ _ q6);rw[au]at hlq;obtain⟨Ww,hb1⟩:=xe;have hlt:(i:Int)<(nc:Int):=dP;have i0:(0:Int)<=(i:Int):=dP;have JA:=H.lt;have hbs:bc<w.heap.size:=H.lo bc (aP _ Po);have HRD:=aa hrd;have xo:=aa ih;have HX:=aa hx;obtain⟨g0,g1,g2,g3⟩:=kB.c4;have HLQ:=aa hlq;have huq:(uq:Int)<=9223372036854775807:=by have:=hlq.2.2;unfold maxLen at this;omega
 have HL:=aa hl;clear hin ld hrd ih hx hlq hl hil q1 q2 q3 q4 q5;by_cases hpos:0<x.count - 1
 ·have HP:=aa hpos;have d1:decide (0<x.count - 1)=true:=by simpa using hpos
  go_enter func58,ntmps58;go_wp2_with fail;go_still_tail 16,dU;go_wp2_with fail;refine bM (v:= .tuple #[]) (by simp [results,results58,go_sem]) rfl ?_;rw[HRD.out,aN HP.out];have md:Mod (bc::Fx) w (w.setCell ⟨bc,i*10,none⟩ (.int .i64 (x.count - 1))).drew:=Mod.mono (F:=[bc]) (gU (Mod.poke (F:=[bc]) dR _) (Below.refl _ _).drew) dR;obtain⟨F',HF,xR⟩:=Lb _ (KP x) [.int .i64 (x.count - 1),x.value.kind,.slice Ei ui vi,.slice Ep up vp,.slice En un vn,.slice Ec uc vc,.slice El ul vl,x.value.code,x.value.env,.slice Ez uq vq] Fx rfl (fH (F:=[bc]) (Dm ox (kP.2 fP)) (gU (Mod.poke (F:=[bc]) dR _) (Below.refl _ _).drew) (λy hy hm=>qo (by simp at hm;subst hm;exact hy))) Ix (λy hy=> .inl hy) (Blk.put_ hB hp (j:=0) dR gO _).dw md;exact⟨rfl,F',HF,xR.sub (λy hy=> .inl (ZK y hy)),md.mono (λy hy=>aP _ se)⟩
 ·have DO:allOK (relOK f) (iD f) (eG h i lf) x.parts:=by rcases zN with h1|h1;exact absurd h1 hpos;exact h1
  have OR:=aa DO;have HP:=aa hpos;have d1:decide (0<x.count - 1)=false:=by simpa using hpos
  clear zN DO;go_enter func58,ntmps58;go_wp2_with fail;go_still_tail 16,dU;go_wp2_with fail;have Vi:Mod [bc] w (((((((((((w.setCell ⟨bc,i*10,none⟩ (.int .i64 (x.count - 1))).setCell ⟨bc,i*10,none⟩ (.int .i64 0)).setCell ⟨bc,i*10+1,none⟩ (.int .i64 0)).setCell ⟨bc,i*10+2,none⟩ (.slice none 0 0)).setCell ⟨bc,i*10+3,none⟩ (.slice none 0 0)).setCell ⟨bc,i*10+4,none⟩ (.slice none 0 0)).setCell ⟨bc,i*10+5,none⟩ (.slice none 0 0)).setCell ⟨bc,i*10+6,none⟩ (.slice none 0 0)).setCell ⟨bc,i*10+7,none⟩ (.int .i64 0)).setCell ⟨bc,i*10+8,none⟩ (.int .i64 0)).setCell ⟨bc,i*10+9,none⟩ (.slice none 0 0)).drew:=gU (iV (Mod.poke (F:=[bc]) dR _) (Q3 dR) (λ_ h=>h)) (Below.refl _ _).drew;have md:Mod (bc::Fx) w (((((((((((w.setCell ⟨bc,i*10,none⟩ (.int .i64 (x.count - 1))).setCell ⟨bc,i*10,none⟩ (.int .i64 0)).setCell ⟨bc,i*10+1,none⟩ (.int .i64 0)).setCell ⟨bc,i*10+2,none⟩ (.slice none 0 0)).setCell ⟨bc,i*10+3,none⟩ (.slice none 0 0)).setCell ⟨bc,i*10+4,none⟩ (.slice none 0 0)).setCell ⟨bc,i*10+5,none⟩ (.slice none 0 0)).setCell ⟨bc,i*10+6,none⟩ (.slice none 0 0)).setCell ⟨bc,i*10+7,none⟩ (.int .i64 0)).setCell ⟨bc,i*10+8,none⟩ (.int .i64 0)).setCell ⟨bc,i*10+9,none⟩ (.slice none 0 0)).drew:=Vi.mono dR;have hG6:∀y∈G6,y∈Fx:=λy hy=>by rw[hFx];simp [hy]
  have q6':=fH q6 Vi (λy hy hm=>qo (by simp at hm;subst hm;exact hG6 _ hy));obtain⟨F2,H2,TA⟩:=Lb _ lf [.int .i64 0,.int .i64 0,(),(),(),(),(),.int .i64 0,.int .i64 0,()] [] rfl (JY _) List.nodup_nil (λy hy=>by simp at hy) (Blk.put10 (Blk.put_ hB hp (j:=0) (o:=i*10) dR gO _) hp).dw md;have Bw:∀y∈G6,y ∉ g::F2:=λy hy hm=>GW;have aht:∀y∈G6,y<w.heap.size:=gC q6;obtain⟨W,hW⟩:∃W,W=(((((((((((w.setCell ⟨bc,i*10,none⟩ (.int .i64 (x.count - 1))).setCell ⟨bc,i*10,none⟩ (.int .i64 0)).setCell ⟨bc,i*10+1,none⟩ (.int .i64 0)).setCell ⟨bc,i*10+2,none⟩ (.slice none 0 0)).setCell ⟨bc,i*10+3,none⟩ (.slice none 0 0)).setCell ⟨bc,i*10+4,none⟩ (.slice none 0 0)).setCell ⟨bc,i*10+5,none⟩ (.slice none 0 0)).setCell ⟨bc,i*10+6,none⟩ (.slice none 0 0)).setCell ⟨bc,i*10+7,none⟩ (.int .i64 0)).setCell ⟨bc,i*10+8,none⟩ (.int .i64 0)).setCell ⟨bc,i*10+9,none⟩ (.slice none 0 0)).drew:=⟨_,rfl⟩;have zW:W.heap.size=w.heap.size:=by rw[hW];simp only[dX,dW]
  rw[<-hW]at md q6' H2 ⊢;clear hW Vi g0 g1 g2 g3 e0 e1 e2 e3 e4 e5 e6 e7 e8 e9 f0 f1 f2 f3 f4 f5 f6 f7 f8 f9 kB hB;go_loopw [5] (λv wr=>∃(j:Nat) (F':List Nat),j<=uq/\v= .int .i64 j/\HB wr g ((x.parts.take j).foldl (iD f) (eG h i lf)) F'/\Sub W.heap.size F2 F'/\Mod (g::F2) W wr) (λv _=>uq - (intOf v).toNat)
  case atStart=>exact⟨0,F2,by omega,rfl,H2,Sub.refl,Mod.refl⟩
  case round=>
   obtain⟨j,F',hj,rfl,Hj,sj,mj⟩:=hrel;by_cases hlj:j<uq
   ·obtain⟨A',n',c',he,-,-,hr,-⟩:=(qy _ _ _ _).1 (eW _ _ _ _ (fH q6' mj Bw));injection he with he;injection he with f1 f2 f3;subst f1 f2 f3
    obtain⟨b,off,y,rfl,gD,hy,xO⟩:=hr.atI hlj;have HY:=aa hy;clear hy hr;go_wp2_with fail;refine(xo.out _ y g F' wr Hj (qR OR.out HY.out)).mono ?_;rintro e w3 ⟨rfl,F3,H3,s3,m3⟩;go_wp2_with fail;go_roundw
    case rel=>exact⟨j+1,F3,by omega,by go_num,by rw[rT HY.out];exact H3,sj.trans s3 mj.size,nO mj m3 (kj sj) (af _)⟩
    case measure=>simp [intOf];omega
   ·obtain rfl:j=uq:=dP;go_wp2_with fail;refine bodyPost_end (v:= .tuple #[]) (by simp [results,results58,go_sem]) rfl ?_;rw[aC (by rw[HLQ.out.1];exact af _)]at Hj;rw[HRD.out,aH (by have:=HP.out;omega)];have s2:Sub w.heap.size F F2:=TA.sub (λy hy=>by simp at hy);exact⟨rfl,F',Hj,s2.trans sj dP,nO (md.mono (λy hy=>aP _ se)) mj (kj s2) dP⟩
theorem ro:∀f:Nat,vD f
 |0=>λh k g F w H jV=>by rw[relOK]at jV;exact jV.elim
 |f+1=>IH f (ro f)
theorem vC (h:Hp) (s:Str) (k:Int) (g:Nat) (F:List Nat) (w:World) (H:HB w g h F) (hs:s.length<=maxLen) (hk:(Lit.int .i64 k).wf=true) (hl:h.names.length=h.slots.length) (hn:(h.names.length:Int)<=1073741824)
 (hR:hasN h s=true->relOK 5 {h with slots:=h.slots.set (ix h.names s 0).toNat k} (slotD h s)):
 Calls prog 50 #[.pointer (some ⟨g,0,none⟩),sv s,k] w λe w'=>e= .returned (.tuple #[])/\∃F',HB w' g (fd h s k) F'/\Sub w.heap.size F F'/\Mod (g::F) w w':=by
 have JA:=H.lt;have XR:=H.lo;have sM:=H.nd;have mT:=pY h.names s 0;cases hb:hasN h s with
 |false=>
  have xe:fd h s k={h with names:=h.names++[s],slots:=h.slots++[k]}:=by unfold fd;rw[aH sk]
  obtain⟨Ac,nc,cc,An,nn,cn,As,ns,cs,Fc,Fn,Fs,kB,rfl,o1,o2,o3,wf⟩:=H.open_;have xf:=ef (eW _ _ _ _ o2);have hl3:=ef (eW _ _ _ _ o3);rw[au]at xf hl3;obtain⟨Ct,CE,Hw,he,-,-,hr,-⟩:=(ls _ _ _ _).1 (eW _ _ _ _ o2);injection he with he;injection he with f1 f2 f3;subst f1 f2 f3
  have R5:=gG An nn cn h.names s w hr dP;have h0:ix h.names s 0<0:=by simp only[hasN,bB]at hb;omega
  have hnn:(nn:Int)<=1073741824:=dP;have hns:(ns:Int)<=1073741824:=dP;have TN:=aa xe;obtain⟨g0,g1,g2,g3⟩:=kB.c4;have fz1:=kB.frozen 1;have fz2:=kB.frozen 2;have nF:=aE.1 (aQ.1 sM).2;have nG:=aE.1 nF.2.1;have Ts:=aa xf;have HL3:=aa hl3;clear hb xe hR hl xf hl3 hr mT hn;go_enter func50,ntmps50;go_wp2_with fail;refine R5.mono ?_;rintro e w1 ⟨rfl,rfl⟩;have x1:Below w.heap.size w (w.alloc (.cells #[sv s] 9)):=(Below.refl _ _).alloc (af _) _;have kn1:Blk (w.alloc (.cells #[sv s] 9)) w.heap.size 9 [sv s]:=Blk.new' (l:=[sv s]);have Ox:=(aQ.1 sM).1;go_wp2_with (first|(at_builtin;refine n8 (xs:=h.names.map D.s) (F:=Fn) (d:=D.s s) (F':=[]) (b:=w.heap.size) (m:=1) (te:=9) (cs:=[sv s]) jm dU rfl _ _ rfl rfl (em o2 x1) rfl kn1 (by rw[own];exact⟨rfl,rfl,hs⟩) rfl (by simpa using nG.1) eb dP ?_;intro gg gc w2 F2 PP ap md;have kg2:=Blk.mod (g:=g) (kB.next x1) md (λhm=>Ox eV);have md1:Mod (g::(Fc++(Fn++(Fs++[])))) w (w2.setCell ⟨g,1,none⟩ (.slice (some ⟨gg,0,none⟩) (nn+1) gc)):=iV (iV (gU Mod.refl x1) md (λy hy=>by simp [hy])) (Mod.poke (F:=g::(Fc++(Fn++(Fs++[])))) dR _) (λ_ h=>h);obtain⟨h0,h1,h2,h3⟩:=kg2.c4;have fg1:=kg2.frozen 1;have fg2:=kg2.frozen 2;obtain⟨F3,H3,s3⟩:=HB.names_app (kB.next x1) (em o1 x1) (em o3 x1) wf sM (XR.mono dR) PP ap md;replace s3:=s3.low (B:=w.heap.size) dR;have hnd3:=H3.nd;have hlo3:=H3.lo;have hgs3:=H3.lt;obtain⟨Ac3,nc3,cc3,An3,nn3,cn3,As3,ns3,cs3,Fc3,Fn3,Fs3,kB3,rfl,p1,p2,p3,Wa⟩:=H3.open_;obtain⟨rfl,rfl,rfl,rfl,rfl,rfl,rfl,rfl,rfl⟩:=pz (h:={h with names:=h.names++[s]}) (kg2.set_ 1 (.slice (some ⟨gg,0,none⟩) (nn+1) gc)) kB3;have zb:=dX w2 ⟨g,1,none⟩ (.slice (some ⟨gg,0,none⟩) (nn+1) gc);simp only[dX]at hlo3 hgs3;have x3:Below w2.heap.size (w2.setCell ⟨g,1,none⟩ (.slice (some ⟨gg,0,none⟩) (nn+1) gc)) ((w2.setCell ⟨g,1,none⟩ (.slice (some ⟨gg,0,none⟩) (nn+1) gc)).alloc (.cells #[k] 3)):=(Below.refl _ _).alloc qm _;have kn3:Blk ((w2.setCell ⟨g,1,none⟩ (.slice (some ⟨gg,0,none⟩) (nn+1) gc)).alloc (.cells #[k] 3)) w2.heap.size 3 [k]:=by(have:=Blk.new' (w:=w2.setCell ⟨g,1,none⟩ (.slice (some ⟨gg,0,none⟩) (nn+1) gc)) (t:=3) (l:=[.int .i64 k]);rwa [zb]at this))|(at_builtin;refine n8 (xs:=h.slots.map (D.i .i64)) (F:=Fs3) (d:=D.i .i64 k) (F':=[]) (b:=w2.heap.size) (m:=1) (te:=3) (cs:=[.int .i64 k]) Kh dU rfl _ _ rfl rfl (fK p3) rfl kn3 (by rw[own];exact⟨rfl,rfl,hk⟩) rfl BQ eb dP ?_;intro gh gd w5 F5 o5 ap5 md5;have kg5:=Blk.mod (g:=g) kB3.al md5 (λhm=>(aQ.1 hnd3).1 eV);obtain⟨h0',h1',h2',h3'⟩:=kg5.c4;have fg5:=kg5.frozen 2));refine bM (v:= .tuple #[]) (by simp [results,results50,go_sem]) rfl ?_;rw[TN.out];obtain⟨F6,H6,s6⟩:=HB.slots_app (h:={h with names:=h.names++[s]}) kB3.al (fK p1) (fK p2) Wa hnd3 (hlo3.mono fC) o5 ap5 md5;replace s6:=s6.low (B:=w2.heap.size) fC;have e1:Fc++(Fn++(Fs++[]))=Fc++(Fn++Fs):=by rw[bP]
  rw[e1]at s3 md1;exact⟨rfl,F6,H6,s3.trans s6 (by have:=md.size;simp only[dT]at this;omega),nO md1 (iV (iV (gU Mod.refl ((Below.refl _ _).alloc (af _) _)) md5 (λy hy=>by simp [hy])) (Mod.poke (F:=g::(Fc3++(Fn3++(Fs3++[])))) dR _) (λ_ h=>h)) (kj s3) (af _)⟩
 |true=>
  have h0:0<=ix h.names s 0:=sk;obtain⟨i,hi⟩:=bQ h0;have hil:i<h.slots.length:=dP;have xe:fd h s k=iD 5 {h with slots:=h.slots.set i k} (slotD h s):=by unfold fd;rw[aN h0,hi,aU]
  have Tu:=hR hb;rw[hi,aU]at Tu;have TB:h.slots[i]?=some (slotD h s):=Ca;obtain⟨y,hy⟩:∃y,y=slotD h s:=⟨_,rfl⟩;rw[<-hy]at Tu TB xe;obtain⟨Ac,nc,cc,An,nn,cn,bs,ns,cs,kB,hsn,hsm,e0,e1,Po,hbg,H1⟩:=H.slot_set TB hk;obtain⟨L4,JS,L7,Ct,CE,Hw,Wl,WG,cs',Fc,Fn,Fs,IG,hF,o1,o2,o3,wf⟩:=H.open_;obtain⟨rfl,rfl,rfl,rfl,rfl,rfl,rfl,rfl,rfl⟩:=pz kB IG;have xf:=ef (eW _ _ _ _ o2);rw[au]at xf;obtain⟨Ct,CE,Hw,he,-,-,hr,-⟩:=(ls _ _ _ _).1 (eW _ _ _ _ o2);injection he with he;injection he with f1 f2 f3;subst f1 f2 f3
  have R5:=gG An nn cn h.names s w hr dP;rw[hi]at R5;have TN:=aa xe;have hlt:(i:Int)<(ns:Int):=dP;have i0:(0:Int)<=(i:Int):=dP;have HR2:=aa Tu;obtain⟨g0,g1,g2,g3⟩:=kB.c4;clear hb xe hR hl xf hr mT hn hi h0 hil TB hy Tu IG hsn o1 o2 o3 hF;go_enter func50,ntmps50;go_wp2_with fail;refine R5.mono ?_;rintro e w1 ⟨rfl,rfl⟩;go_wp2_with fail;refine(ro 5 _ y g F _ H1 HR2.out).mono ?_;rintro e w3 ⟨rfl,F3,H3,s3,m3⟩;go_wp2_with fail;refine bodyPost_end (v:= .tuple #[]) (by simp [results,results50,go_sem]) rfl ?_;rw[TN.out];have md:Mod (g::F) w (w.setCell ⟨bs,i,none⟩ (.int .i64 k)):=Mod.poke (by simp [Po]) _;exact⟨rfl,F3,H3,s3.low qm,nO md m3 Sub.refl (af _)⟩
end Go.Proofs.YtekcpadlmfaihaaGreat
