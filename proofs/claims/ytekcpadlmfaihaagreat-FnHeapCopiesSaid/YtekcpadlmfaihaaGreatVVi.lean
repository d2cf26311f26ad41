/- Vectors in the one assertion for memory, with lengths of their lists. -/
import Derived.Test.YtekcpadlmfaihaaGreatVReg
import Derived.Test.YtekcpadlmfaihaaGreatVHf
import Derived.Test.YtekcpadlmfaihaaGreatVVb
import Derived.Test.YtekcpadlmfaihaaGreatVVe
import Derived.Test.YtekcpadlmfaihaaGreatVVg
import Derived.Test.YtekcpadlmfaihaaGreatVDtCell
import Derived.Test.YtekcpadlmfaihaaGreatVNu
import Derived.ProofKit
import Derived.OpenShut
import Derived.ShutString
import Derived.ChangeOld
import Derived.Deep.Slices
import Derived.Deep.Fields
import Derived.ChangeSame
namespace Go.Proofs.YtekcpadlmfaihaaGreat
open Go.RowKit Proofs.Tryz
set_option maxHeartbeats 8000000
set_option maxRecDepth 100000
set_option linter.unusedSimpArgs false
set_option linter.unusedVariables false
variable {x:Cel} {h:Hp} {y:Int} {l:List Int} {F F' G X Y Y' Z:List Nat} {cs post pre r:List Value} {B C cc cn g i m nc nn ns p:Nat} {Ac Aj An:Option Addr} {P:Program} {t t':TypeId} {a b c d e f j k:Value} {w w':World}
theorem d_ {v:Vec} (h:rep w B v.toD cs):∃(Ai:Option Addr) (ci:Nat) (Ap:Option Addr) (cp:Nat) (An:Option Addr) (cn:Nat) (Ac:Option Addr) (cc:Nat) (Al:Option Addr) (cl:Nat),
 cs=[.int .i64 v.kind,.slice Ai v.items.length ci,.slice Ap v.parts.length cp,.slice An v.names.length cn,.slice Ac v.cls.length cc,.slice Al v.levels.length cl,.int .i64 v.code,.int .i64 v.env]/\(Lit.int .i64 v.kind).wf=true/\
 rep w B (.sl (v.items.map Item.toD)) [.slice Ai v.items.length ci]/\rep w B (.sl (v.parts.map Vec.toD)) [.slice Ap v.parts.length cp]/\rep w B (.sl (v.names.map .s)) [.slice An v.names.length cn]/\rep w B (.sl (v.cls.map .s)) [.slice Ac v.cls.length cc]/\rep w B (.sl (v.levels.map .s)) [.slice Al v.levels.length cl]/\(Lit.int .i64 v.code).wf=true/\(Lit.int .i64 v.env).wf=true:=by
 obtain⟨Ai,ni,ci,Ap,np,cp,An,nn,cn,Ac,nc,cc,Al,nl,cl,rfl,wk,ri,rp,rn,rc,rl,wc,we⟩:=fw h;have q1:=(ef ri).1;have q2:=(ef rp).1;have q3:=(ef rn).1;have q4:=(ef rc).1;have q5:=(ef rl).1;rw[au]at q1 q2 q3 q4 q5;subst q1 q2 q3 q4 q5;exact⟨Ai,ci,Ap,cp,An,cn,Ac,cc,Al,cl,rfl,wk,ri,rp,rn,rc,rl,wc,we⟩
section
variable {w0 w w':World} {X:List Nat} {R:List As} {e:Ending}
theorem Mem.newVec {v:Vec} (M:Mem prog w0 X w R) (hn:gM v.toD 38 w e w'):∃(Ai:Option Addr) (ci:Nat) (Ap:Option Addr) (cp:Nat) (An:Option Addr) (cn:Nat) (Ac:Option Addr) (cc:Nat) (Al:Option Addr) (cl:Nat),
 e= .returned (.agg #[v.kind,.slice Ai v.items.length ci,.slice Ap v.parts.length cp,.slice An v.names.length cn,.slice Ac v.cls.length cc,.slice Al v.levels.length cl,v.code,v.env])/\
 Mem prog w0 X w' (.ow (.sl (v.items.map Item.toD)) 35 [.slice Ai v.items.length ci]:: .ow (.sl (v.parts.map Vec.toD)) 36 [.slice Ap v.parts.length cp]:: .ow (.sl (v.names.map .s)) 25 [.slice An v.names.length cn]:: .ow (.sl (v.cls.map .s)) 25 [.slice Ac v.cls.length cc]:: .ow (.sl (v.levels.map .s)) 25 [.slice Al v.levels.length cl]::R):=by
 obtain⟨cs,rfl,M'⟩:=M.newSt hn;obtain⟨Ai,ni,ci,Ap,np,cp,An,nn,cn,Ac,nc,cc,Al,nl,cl,rfl,M2⟩:=M'.openVec;have q1:=(ef (M2.rp 0 rfl)).1;have q2:=(ef (M2.rp 1 rfl)).1;have q3:=(ef (M2.rp 2 rfl)).1;have q4:=(ef (M2.rp 3 rfl)).1;have q5:=(ef (M2.rp 4 rfl)).1;rw[au]at q1 q2 q3 q4 q5;subst q1 q2 q3 q4 q5;exact⟨Ai,ci,Ap,cp,An,cn,Ac,cc,Al,cl,rfl,M2⟩
theorem Mem.newMap {α:Type} {f:α->D} {l:List α} {t:TypeId} (M:Mem prog w0 X w R) (hn:oK (l.map f) t w e w'):∃(A:Option Addr) (c:Nat),e= .returned (.slice A l.length c)/\Mem prog w0 X w' (.ow (.sl (l.map f)) t [.slice A l.length c]::R):=by obtain⟨A,n,c,rfl,M'⟩:=M.newSl hn;have q:=(ef (M'.rp 0 rfl)).1;rw[au]at q;subst q;exact⟨A,c,rfl,M'⟩
theorem wf2:(Lit.int .i64 2).wf=true:=dQ
theorem LZ:(Lit.int .i64 4).wf=true:=dQ
def eH (d:D) (t:TypeId) (y:Value) (w:World) (e:Ending) (w':World):Prop:=∃(cs:List Value) (F:List Nat),e= .returned (.tuple #[av cs,y])/\own prog w' d t F cs/\Fresh w.heap.size F/\Below w.heap.size w w'
theorem Mem.retTwo {d:D} {t:TypeId} {cs:List Value} {y:Value} (h:Mem prog w0 [] w (.ow d t cs::R)):eH d t y w0 (.returned (.tuple #[av cs,y])) w:=by obtain⟨F,h1,h2,h3⟩:=h.fin;exact⟨cs,F,rfl,h1,h2,h3⟩
theorem Mem.newVecTwo {v:Vec} {y:Value} (M:Mem prog w0 X w R) (hn:eH v.toD 38 y w e w'):∃(Ai:Option Addr) (ci:Nat) (Ap:Option Addr) (cp:Nat) (An:Option Addr) (cn:Nat) (Ac:Option Addr) (cc:Nat) (Al:Option Addr) (cl:Nat),
 e= .returned (.tuple #[.agg #[v.kind,.slice Ai v.items.length ci,.slice Ap v.parts.length cp,.slice An v.names.length cn,.slice Ac v.cls.length cc,.slice Al v.levels.length cl,v.code,v.env],y])/\
 Mem prog w0 X w' (.ow (.sl (v.items.map Item.toD)) 35 [.slice Ai v.items.length ci]:: .ow (.sl (v.parts.map Vec.toD)) 36 [.slice Ap v.parts.length cp]:: .ow (.sl (v.names.map .s)) 25 [.slice An v.names.length cn]:: .ow (.sl (v.cls.map .s)) 25 [.slice Ac v.cls.length cc]:: .ow (.sl (v.levels.map .s)) 25 [.slice Al v.levels.length cl]::R):=by
 obtain⟨cs,F,rfl,ho,hf,hb⟩:=hn;obtain⟨Ai,ci,Ap,cp,An,cn,Ac,cc,Al,cl,he,M2⟩:=M.newVec ⟨cs,F,rfl,ho,hf,hb⟩;injection he with he;exact⟨Ai,ci,Ap,cp,An,cn,Ac,cc,Al,cl,by rw[show av cs= .agg cs.toArray from rfl,he],M2⟩
theorem Mem.item {x:Item} (M:Mem prog w0 X w R) (hx:itOK x):Mem prog w0 X w (.ow x.toD 135 [x.num,x.den,sv x.text]::R):=M.scal (uR hx.1 hx.2.1 hx.2.2)
end
def Sub (B:Nat) (F F':List Nat):Prop:=∀x∈F',x∈F\/B<=x
theorem Sub.refl:Sub B F F:=λ_ h=> .inl h
theorem Sub.trans {yX:List Nat} (h:Sub B F F') (h':Sub C F' yX) (hB:B<=C):Sub B F yX:=λx hx=>by
 rcases h' x hx with h1|h1
 ·exact h x h1
 ·exact .inr dP
theorem Sub.mono (h:Sub B F F') (hG:∀x∈F,x∈G):Sub B G F':=λx hx=>by
 rcases h x hx with h1|h1
 ·exact .inl (hG x h1)
 ·exact .inr h1
theorem Sub.low (h:Sub C F F') (hB:B<=C):Sub B F F':=λx hx=>by
 rcases h x hx with h1|h1
 ·exact .inl h1
 ·exact .inr dP
theorem ub (h:(X++(Y++Z)).Nodup) (hY:Y'.Nodup) (hs:∀y∈Y',y∈Y\/y ∉ X++(Y++Z)):(X++(Y'++Z)).Nodup:=by
 obtain⟨n1,n2,n3⟩:=aE.1 h;obtain⟨n4,n5,n6⟩:=aE.1 n2;refine aE.2 ⟨n1,aE.2 ⟨hY,n5,λa ha b hb e=>?_⟩,λa ha b hb e=>?_⟩
 ·subst e;rcases hs a ha with h1|h1
  ·exact n6 a h1 a hb rfl
  ·exact h1 (by simp [hb])
 ·subst e;rcases aG.1 hb with hb|hb
  ·rcases hs a hb with h1|h1
   ·exact n3 a ha a kw rfl
   ·exact h1 (by simp [ha])
  ·exact n3 a ha a (by simp [hb]) rfl
def Repl (F Y Y' F':List Nat):Prop:=∀x∈F',x∈Y'\/(x∈F/\x ∉ Y)
theorem Repl.sub (h:Repl F Y Y' F') (hY:Sub B F Y'):Sub B F F':=λx hx=>by
 rcases h x hx with h1|h1
 ·exact hY x h1
 ·exact .inl h1.1
theorem VO (h:(X++(Y++Z)).Nodup):Repl (X++(Y++Z)) Y Y' (X++(Y'++Z)):=λx hx=>by
 obtain⟨n1,n2,n3⟩:=aE.1 h;obtain⟨n4,n5,n6⟩:=aE.1 n2;rcases aG.1 hx with hx|hx
 ·exact .inr ⟨by simp [hx],λhy=>n3 x hx x eK rfl⟩
 ·rcases aG.1 hx with hx|hx
  ·exact .inl hx
  ·exact .inr ⟨by simp [hx],λhy=>n6 x hy x hx rfl⟩
theorem nO {w2:World} (h:Mod F w w') (k:Mod G w' w2) (s:Sub B F G) (hB:w.heap.size<=B):Mod F w w2:=h.trans k (λx hx=>by
 rcases s x hx with h1|h1
 ·exact .inl h1
 ·exact .inr dP)
theorem kj (s:Sub B F G):Sub B (g::F) (g::G):=λx hx=>by
 rcases aX.1 hx with e|hx
 ·exact .inl mr
 ·rcases s x hx with h1|h1
  ·exact .inl kw
  ·exact .inr h1
section
variable {P:Program} {w:World}
theorem NF:∀{l:List D} {e:TypeId} {F:List Nat} {css:List (List Value)} {k:Nat} {d:D},iv P w l e F css->l[k]?=some d->
 ∃Fa Fd Fb cs,css[k]?=some cs/\F=Fa++(Fd++Fb)/\own P w d e Fd cs/\∀(w':World) (d':D) (cs':List Value) (Rz:List Nat),own P w' d' e Rz cs'->(∀x∈Fa++Fb,w'.heap[x]?=w.heap[x]?)->iv P w' (l.set k d') e (Fa++(Rz++Fb)) (css.set k cs')
 |[],_,_,_,_,_,_,h=>by simp at h
 |x::t,e,F,css,k,d,ho,h=>by
  rw[iv]at ho;obtain⟨F1,F2,c1,c2,rfl,rfl,h3,h4⟩:=ho;cases k with
  |zero=>
   simp at h;subst h;refine⟨[],F1,F2,c1,rfl,rfl,h3,λw' d' cs' Rz h5 h6=>?_⟩;rw[a_,a_,iv];exact⟨Rz,F2,cs',c2,rfl,rfl,h5,mI t e F2 c2 (λg hg=>h6 g (by simpa using hg)) h4⟩
  |succ k=>
   simp at h;obtain⟨Fa,Fd,Fb,cs,k1,rfl,k3,k4⟩:=NF h4 h;refine⟨F1++Fa,Fd,Fb,cs,by simpa using k1,by simp,k3,λw' d' cs' Rz h5 h6=>?_⟩;rw[be,be,iv];exact⟨F1,Fa++(Rz++Fb),c1,c2.set k cs',by simp,rfl,nJ x e F1 c1 (λg hg=>h6 g fe) h3,k4 w' d' cs' Rz h5 (λg hg=>h6 g (by
    rcases aG.1 hg with hg|hg
    ·simp [hg]
    ·simp [hg]))⟩
theorem ta {xs:List D} {t e:TypeId} {F:List Nat} {A:Option Addr} {n c k:Nat} {d:D} (ht:P.underlying t=some (.slice e)) (h:own P w (.sl xs) t F [.slice A n c]) (hk:xs[k]?=some d):
 ∃g Fa Fd Fb cs pre post,A=some ⟨g,0,none⟩/\F=g::(Fa++(Fd++Fb))/\own P w d e Fd cs/\pre.length=k*cs.length/\Blk w g e (pre++(cs++post))/\
  ∀(w':World) (d':D) (cs':List Value) (Rz:List Nat),cs'.length=cs.length->own P w' d' e Rz cs'->Blk w' g e (pre++(cs'++post))->(∀x∈Fa++Fb,w'.heap[x]?=w.heap[x]?)->own P w' (.sl (xs.set k d')) t (g::(Fa++(Rz++Fb))) [.slice A n c]:=by
 rw[own]at h;obtain⟨e',A',n',c',s,fB,F2,h1,h2,h3,hm,h4,rfl,h6⟩:=h;obtain rfl:e=e':=by rw[ht]at h1;injection h1 with h1;injection h1
 injection h3 with h3;injection h3 with e1 e2 e3;subst e1 e2 e3
 obtain⟨Fa,Fd,Fb,cs,k1,rfl,k3,k4⟩:=NF h6 hk;have gK:=zY h6;have hn:=h4.1;rcases h4.2.2 with ⟨h0,h00⟩|⟨g,cap,pq,h0,hg,hh,hc,hmm,hz,hr⟩
 ·exfalso;have:=(ay.1 hk).1;rw[au]at gK;omega
 injection h0 with h0 _ h01;subst h0 h01;rw[cg]at k1;cases QS:fB[k]? with
 |none=>simp [QS]at k1
 |some r=>
 simp [QS]at k1;subst k1;have hs:r.v.length=s:=Row.len r;have WA:k<fB.length:=(ay.1 QS).1;have e4:fB=fB.take k++(r::fB.drop (k+1)):=by
  rw[aw WA]at QS;injection QS with QS
  rw[<-QS,<-cR WA,cA]
 have lp:((fB.take k).flatMap Row.v).length=k*s:=by rw[gN Row.len,de];congr 1;omega
 have ec:pq.toList=(fB.take k).flatMap Row.v++(r.v++((fB.drop (k+1)).flatMap Row.v++pq.toList.drop (n*s))):=by
  conv=>lhs;rw[<-cA (n*s) pq.toList,hr,e4]
  simp
 refine⟨g,Fa,Fd,Fb,r.v,(fB.take k).flatMap Row.v,(fB.drop (k+1)).flatMap Row.v++pq.toList.drop (n*s),rfl,rfl,k3,by rw[hs];exact lp,?_,?_⟩
 ·unfold Blk;rw[<-ec];exact hh
 intro w' d' cs' Rz q1 q2 q3 q4;rw[own];have JC:cs'.length=s:=by rw[q1,hs]
 have e5:(fB.set k ⟨cs',JC⟩).map Row.v=(fB.map Row.v).set k cs':=by rw[dH]
 have e6:(fB.set k ⟨cs',JC⟩).flatMap Row.v=(fB.take k).flatMap Row.v++(cs'++(fB.drop (k+1)).flatMap Row.v):=by
  have:fB.set k (⟨cs',JC⟩:Row s)=fB.take k++((⟨cs',JC⟩:Row s)::fB.drop (k+1)):=List.set_eq_take_append_cons_drop .. |>.trans (by rw[aN WA])
  rw[this];simp
 refine⟨e,_,n,c,s,fB.set k ⟨cs',JC⟩,Fa++(Rz++Fb),ht,h2,rfl,hm,⟨by rw[da];exact hn,by rw[gN Row.len,da,hn],.inr ⟨g,c,((fB.take k).flatMap Row.v++(cs'++((fB.drop (k+1)).flatMap Row.v++pq.toList.drop (n*s)))).toArray,rfl,hg,q3,hc,hmm,?_,?_⟩⟩,rfl,?_⟩
 ·have h7:pq.toList.length=c*s:=by rw[Array.length_toList];exact hz
  rw[ec]at h7;simp only[List.size_toArray,aY]at h7 ⊢;rw[hs]at h7;rw[JC];exact h7
 ·exact GO
 ·rw[e5];exact k4 w' d' cs' Rz q2 q4
end
def HB (w:World) (g:Nat) (h:Hp) (F:List Nat):Prop:=∃cs,Blk w g 28 cs/\own prog w h.toD 28 F cs/\(g::F).Nodup
theorem HB.lt {w:World} {g:Nat} {h:Hp} {F:List Nat} (H:HB w g h F):g<w.heap.size:=by obtain⟨cs,k,_⟩:=H;exact k.lt
theorem HB.lo (H:HB w g h F):Lo w.heap.size (g::F):=by obtain⟨cs,k,o,_⟩:=H;exact Lo.cons k.lt (gC o)
theorem HB.nd (H:HB w g h F):(g::F).Nodup:=by obtain⟨cs,k,o,n⟩:=H;exact n
theorem HB.mod {w w':World} {g:Nat} {h:Hp} {F G:List Nat} (H:HB w g h F) (hm:Mod G w w') (hd:∀x∈g::F,x ∉ G):HB w' g h F:=by obtain⟨cs,k,o,n⟩:=H;exact⟨cs,Blk.mod (g:=g) k hm (hd g aT),fH o hm (λx hx=>hd x (aP _ hx)),n⟩
theorem HB.next (H:HB w g h F) (hb:Below w.heap.size w w'):HB w' g h F:=H.mod (Mod.of_below (F:=[]) hb) dR
theorem HB.dw (H:HB w g h F):HB w.drew g h F:=H.next (Below.refl _ _).drew
theorem HB.al {o:Obj} (H:HB w g h F):HB (w.alloc o) g h F:=H.next ((Below.refl _ _).alloc (af _) _)
theorem HB.pk {p:Addr} {u:Value} (H:HB w g h F) (hp:p.block ∉ g::F):HB (w.setCell p u) g h F:=
 H.mod (Mod.poke (F:=[p.block]) dR u) (λx hx hm=>hp (by simp at hm;subst hm;exact hx))
abbrev px (h:Hp) (Ac:Option Addr) (nc cc:Nat) (An:Option Addr) (nn cn:Nat) (Aj:Option Addr) (ns cs:Nat):List Value:=[.slice Ac nc cc,.slice An nn cn,.slice Aj ns cs,.int .i64 h.copies]
theorem HB.open_ (H:HB w g h F):∃(Ac:Option Addr) (nc cc:Nat) (An:Option Addr) (nn cn:Nat) (Aj:Option Addr) (ns cs:Nat) (Fc Fn Fs:List Nat),
 Blk w g 28 (px h Ac nc cc An nn cn Aj ns cs)/\F=Fc++(Fn++(Fs++[]))/\own prog w (.sl (h.cells.map Cel.toD)) 24 Fc [.slice Ac nc cc]/\own prog w (.sl (h.names.map D.s)) 25 Fn [.slice An nn cn]/\own prog w (.sl (h.slots.map (D.i .i64))) 26 Fs [.slice Aj ns cs]/\(Lit.int .i64 h.copies).wf=true:=by
 obtain⟨cs,k,o,n⟩:=H;obtain⟨A1,n1,c1,A2,n2,c2,A3,n3,c3,F1,F2,F3,rfl,rfl,o1,o2,o3⟩:=tC o;obtain⟨_,_,_,_,_,_,_,_,_,_,_,_,_,wf⟩:=iP (eW _ _ _ _ o);exact⟨A1,n1,c1,A2,n2,c2,A3,n3,c3,F1,F2,F3,k,rfl,o1,o2,o3,wf⟩
theorem HB.shut {cs:Nat} {Fc Fn Fs:List Nat} (k:Blk w g 28 (px h Ac nc cc An nn cn Aj ns cs)) (o1:own prog w (.sl (h.cells.map Cel.toD)) 24 Fc [.slice Ac nc cc]) (o2:own prog w (.sl (h.names.map D.s)) 25 Fn [.slice An nn cn]) (o3:own prog w (.sl (h.slots.map (D.i .i64))) 26 Fs [.slice Aj ns cs]) (wf:(Lit.int .i64 h.copies).wf=true) (n:(g::(Fc++(Fn++(Fs++[])))).Nodup):HB w g h (Fc++(Fn++(Fs++[]))):=
 ⟨_,k,Da o1 o2 o3 wf,n⟩
theorem HB.rep {w:World} {g:Nat} {h:Hp} {F:List Nat} (H:HB w g h F):∃cs,Blk w g 28 cs/\rep w w.heap.size h.toD cs:=by obtain⟨cs,k,o,n⟩:=H;exact⟨cs,k,eW _ _ _ _ o⟩
abbrev eG (h:Hp) (k:Nat) (x:Cel):Hp:={h with cells:=h.cells.set k x}
abbrev nR (x:Cel) (Ai:Option Addr) (ni ci:Nat) (Ap:Option Addr) (np cp:Nat) (An:Option Addr) (nn cn:Nat) (Ac:Option Addr) (nc cc:Nat) (Al:Option Addr) (nl cl:Nat) (Aq:Option Addr) (nq cq:Nat):List Value:=
 [x.count,x.value.kind,.slice Ai ni ci,.slice Ap np cp,.slice An nn cn,.slice Ac nc cc,.slice Al nl cl,x.value.code,x.value.env,.slice Aq nq cq]
theorem HB.cell_ (H:HB w g h F) {k:Nat} (hk:h.cells[k]?=some x):
 ∃(bc nc cc:Nat) (An:Option Addr) (nn cn:Nat) (Aj:Option Addr) (ns cs:Nat) (Fx:List Nat) (cx pre post:List Value),
  Blk w g 28 (px h (some ⟨bc,0,none⟩) nc cc An nn cn Aj ns cs)/\h.cells.length=nc/\nc<=maxLen/\own prog w x.toD 43 Fx cx/\Fx.Nodup/\cx.length=10/\pre.length=k*10/\Blk w bc 43 (pre++(cx++post))/\bc∈F/\bc ∉ Fx/\(∀y∈Fx,y∈F)/\g≠bc/\
  ∀(w':World) (x':Cel) (cx':List Value) (Y8:List Nat),cx'.length=10->own prog w' x'.toD 43 Y8 cx'->Y8.Nodup->(∀y∈Y8,y∈Fx\/y ∉ g::F)->Blk w' bc 43 (pre++(cx'++post))->Mod (bc::Fx) w w'->∃F',HB w' g (eG h k x') F'/\Repl F Fx Y8 F':=by
 have XR:=H.lo;have sM:=H.nd;obtain⟨Ac,nc,cc,An,nn,cn,Aj,ns,cs,Fc,Fn,Fs,kB,rfl,o1,o2,o3,wf⟩:=H.open_;have hl:=ef (eW _ _ _ _ o1);rw[au]at hl;obtain⟨bc,Fa,Fx,Fb,cx,pre,post,rfl,rfl,ox,hp,hB,hw⟩:=ta underlying24 o1 (show (h.cells.map Cel.toD)[k]?=some x.toD by rw[cg,hk];rfl);have Zw:cx.length=10:=by obtain⟨_,_,_,_,_,_,_,_,_,_,_,_,_,_,_,_,_,_,_,_,_,_,_,_,rfl,_⟩:=jp ox;rfl
 rw[Zw]at hp;have Pv:=(aQ.1 sM).2;have hg:=(aQ.1 sM).1;have e0:bc::(Fa++(Fx++Fb))++(Fn++(Fs++[]))=(bc::Fa)++(Fx++(Fb++(Fn++(Fs++[])))):=dR;rw[e0]at Pv;have Ix:=aE.1 Pv;have hny:=aE.1 Ix.2.1;refine⟨bc,nc,cc,An,nn,cn,Aj,ns,cs,Fx,cx,pre,post,kB,hl.1,by omega,ox,hny.1,Zw,hp,hB,by simp,λhm=>Ix.2.2 bc dR bc eV rfl,λy hy=>by simp [hy],λe=>hg mr,?_⟩;intro w' x' cx' Y8 q1 q2 q3 q4 q5 q6;have dis:∀y∈Fa++(Fb++(Fn++(Fs++[]))),y ∉ bc::Fx:=by
  intro y hy hm;rcases aX.1 hm with e|hm
  ·subst e;rcases aG.1 hy with hy|hy
   ·exact(aQ.1 Ix.1).1 hy
   ·exact Ix.2.2 y dR y qj rfl
  ·rcases aG.1 hy with hy|hy
   ·exact Ix.2.2 y eK y eV rfl
   ·exact hny.2.2 y hm y hy rfl
 have hlt:∀y∈Fa++Fb,y<w.heap.size:=λy hy=>XR y (by rcases aG.1 hy with hy|hy<;>simp [hy]);have o1':=hw w' x'.toD cx' Y8 (by rw[q1,Zw]) q2 q5 (λy hy=>q6.2.2 y (hlt y hy) (dis y (by rcases aG.1 hy with hy|hy<;>simp [hy])));rw[<-dH]at o1';have IG:=Blk.mod (g:=g) kB q6 (λhm=>hg (by rcases aX.1 hm with e|hm;simp [e];simp [hm]));have PP:=fH o2 q6 (λy hy=>dis y eK);have Vq:=fH o3 q6 (λy hy=>dis y eK);have ahA:((g::bc::Fa)++(Fx++(Fb++(Fn++(Fs++[]))))).Nodup:=aQ.2 ⟨λhm=>hg (by rw[e0];exact hm),Pv⟩;have hnd3:=ub (X:=g::bc::Fa) (Y:=Fx) (Z:=Fb++(Fn++(Fs++[]))) (Y':=Y8) ahA q3 (λy hy=>by
  rcases q4 y hy with h1|h1
  ·exact .inl h1
  ·exact .inr (λhm=>h1 (by simpa [or_assoc]using hm)))
 refine⟨_,HB.shut (h:=eG h k x') IG o1' PP Vq wf (by simpa using hnd3),?_⟩;have:=VO (X:=bc::Fa) (Y:=Fx) (Z:=Fb++(Fn++(Fs++[]))) (Y':=Y8) Pv;intro y hy;have:=this y (by simpa using hy);rw[e0];exact this
def xB (w:World) (g:Nat):Nat->List Value->World
 |_,[]=>w
 |o,v::t=>xB (w.setCell ⟨g,o,none⟩ v) g (o+1) t
theorem J0:∀{w:World} {g o:Nat} {cs:List Value},Mod [g] w (xB w g o cs)
 |_,_,_,[]=>Mod.refl
 |w,g,o,v::t=>by rw[xB];exact(JR (F:=[g]) (p:=⟨g,o,none⟩) dR v).trans J0 (λx hx=> .inl hx)
theorem JZ:∀{cs' cs pre post:List Value} {w:World} {g:Nat} {t:TypeId},Blk w g t (pre++(cs++post))->cs'.length=cs.length->Blk (xB w g pre.length cs') g t (pre++(cs'++post))
 |[],cs,pre,post,w,g,t,h,hl=>by obtain rfl:cs=[]:=aR.1 (by simpa using hl.symm);exact h
 |v::r,[],pre,post,w,g,t,h,hl=>by simp at hl
 |v::r,c::ct,pre,post,w,g,t,h,hl=>by rw[xB];have h1:=h.set_ pre.length v;rw[dI _ _ (af _),Nat.sub_self,cK,a_]at h1;have h2:Blk (w.setCell ⟨g,pre.length,none⟩ v) g t ((pre++[v])++(ct++post)):=mt;have h3:=JZ (cs':=r) h2 (by simpa using hl);rw[aY]at h3;simpa using h3
section
variable {P:Program} {w0 w:World} {X:List Nat} {R:List As} {xs:List D} {t e:TypeId} {A:Option Addr} {n c k:Nat} {d d':D} {cs':List Value}
theorem Mem.setEl (M:Mem P w0 X w (.ow (.sl xs) t [.slice A n c]:: .ow d' e cs'::R)) (ht:P.underlying t=some (.slice e)) (hk:xs[k]?=some d) (hl:∀F cs,own P w d e F cs->cs'.length=cs.length):
 ∃g,A=some ⟨g,0,none⟩/\(∀j,j<cs'.length->∃u,w.cell? ⟨g,k*cs'.length+j,none⟩=some u)/\(∀j,w.frozen? ⟨g,j,none⟩=false)/\g<w.heap.size/\Mem P w0 X (xB w g (k*cs'.length) cs') (.ow (.sl (xs.set k d')) t [.slice (some ⟨g,0,none⟩) n c]::R):=by
 obtain⟨F,h1,h2,h3⟩:=Mem.split [_,_] M;obtain⟨F1,F2,rfl,h4,h5⟩:=fJ.1 h1;have h5:=iQ.1 h5;obtain⟨g,Fa,Fd,Fb,cs,pre,post,rfl,rfl,o1,o2,o3,o4⟩:=ta ht h4 hk;have gK:=hl _ _ o1;rw[<-gK]at o2;have hn:=aE.1 h2;have hg2:g ∉ F2:=λhh=>hn.2.2 g dR g hh rfl;have hg:=aQ.1 hn.1;refine⟨g,rfl,λj hj=>?_,λj=>o3.frozen j,o3.lt,?_⟩
 ·have:(pre++(cs++post))[k*cs'.length+j]?=some ((cs[j]?).getD undef):=by rw[cV dP,cY dP];have:k*cs'.length+j - pre.length=j:=dP;rw[this];have XM:j<cs.length:=dP;simp [XM]
  exact⟨_,(o3.cell _).trans this⟩
 ·have hb:=JZ (cs':=cs') o3 gK;rw[o2]at hb;have Pu:Mod [g] w (xB w g (k*cs'.length) cs'):=J0;have UI:∀x,x∈Fa++Fb->(xB w g (k*cs'.length) cs').heap[x]?=w.heap[x]?:=λx hx=>Pu.2.2 x (jT _ _ _ _ h4 x wt) (by simp only[ed];rintro rfl;exact hg.1 wt)
  have h6:own P (xB w g (k*cs'.length) cs') d' e F2 cs':=nJ _ _ _ _ (λx hx=>Pu.2.2 x (jT _ _ _ _ h5 x hx) (by simp only[ed];rintro rfl;exact hg2 hx)) h5;have h7:=o4 _ d' cs' F2 dP h6 hb UI;refine h3 _ [_] _ (iQ.2 h7) ?_ ?_ (Pu.mono dR)
  ·have q1:=hg.1;have q2:=hg.2;simp only[aG,not_or]at q1;have q3:=aE.1 q2;have q4:=aE.1 q3.2.1;refine aQ.2 ⟨by simp only[aG,not_or];exact⟨q1.1,hg2,q1.2.2⟩,?_⟩;refine aE.2 ⟨q3.1,aE.2 ⟨hn.2.1,q4.2.1,?_⟩,?_⟩
   ·intro a ha b Tv e';subst e';exact hn.2.2 a (by simp [Tv]) a ha rfl
   ·intro a ha b Tv e';subst e';rcases aG.1 Tv with Tv|Tv
    ·exact hn.2.2 a (by simp [ha]) a Tv rfl
    ·exact q3.2.2 a ha a (by simp [Tv]) rfl
  ·intro x hx;left;simp only[aX,aG]at hx ⊢;rcases hx with rfl|hx|hx|hx<;>simp_all
theorem Mem.some0 (M:Mem P w0 X w (.ow (.sl xs) t [.slice A n c]::R)) (ht:P.underlying t=some (.slice e)) (hn:0<n):∃g,A=some ⟨g,0,none⟩:=by obtain⟨F,h1,h2,h3⟩:=Mem.split [_] M;have h4:=iQ.1 h1;have hl:=(ef (eW _ _ _ _ h4)).1;obtain⟨g,Fa,Fd,Fb,cs,pre,post,h5,_⟩:=ta (k:=0) (d:=xs[0]' dP) ht h4 (aw dP);exact⟨g,h5⟩
end
section
variable {w0 w:World} {X:List Nat} {R:List As} {A:Option Addr} {n c k:Nat} {l:List Item} {x y:Item}
theorem Mem.setItem (M:Mem prog w0 X w (.ow (.sl (l.map Item.toD)) 35 [.slice A n c]::R)) (hk:l[k]?=some x) (hy:itOK y):
 ∃g,A=some ⟨g,0,none⟩/\(∃u,w.cell? ⟨g,k*3,none⟩=some u)/\(∃u,w.cell? ⟨g,k*3+1,none⟩=some u)/\(∃u,w.cell? ⟨g,k*3+2,none⟩=some u)/\(∀j,w.frozen? ⟨g,j,none⟩=false)/\g<w.heap.size/\
  Mem prog w0 X (((w.setCell ⟨g,k*3,none⟩ (.int .i64 y.num)).setCell ⟨g,k*3+1,none⟩ (.int .i64 y.den)).setCell ⟨g,k*3+2,none⟩ (sv y.text)) (.ow (.sl ((l.set k y).map Item.toD)) 35 [.slice (some ⟨g,0,none⟩) n c]::R):=by
 obtain⟨g,h1,h2,h3,h4,h5⟩:=Mem.setEl (k:=k) (d:=x.toD) (d':=y.toD) (cs':=[.int .i64 y.num,.int .i64 y.den,sv y.text]) ((M.item hy).pull 1 rfl) underlying35 sC (λF cs h=>by obtain⟨_,rfl,_⟩:=yZ h;rfl);refine⟨g,h1,h2 0 dR,h2 1 dR,h2 2 dR,h3,h4,?_⟩;rw[<-dH]at h5;exact h5
theorem Mem.setStr {l:List Str} {x y:Str} (M:Mem prog w0 X w (.ow (.sl (l.map .s)) 25 [.slice A n c]::R)) (hk:l[k]?=some x) (hy:y.length<=maxLen):
 ∃g,A=some ⟨g,0,none⟩/\(∃u,w.cell? ⟨g,k,none⟩=some u)/\(∀j,w.frozen? ⟨g,j,none⟩=false)/\g<w.heap.size/\
  Mem prog w0 X (w.setCell ⟨g,k,none⟩ (sv y)) (.ow (.sl ((l.set k y).map .s)) 25 [.slice (some ⟨g,0,none⟩) n c]::R):=by
 obtain⟨g,h1,h2,h3,h4,h5⟩:=Mem.setEl (k:=k) (d:= .s x) (d':= .s y) (cs':=[sv y]) ((M.str (t:=9) hy).pull 1 rfl) underlying25 sC (λF cs h=>by obtain⟨_,rfl⟩:=Yz _ _ _ h;rfl);refine⟨g,h1,by have:=h2 0 dR;simpa using this,h3,h4,?_⟩;rw[<-dH]at h5;simp only[bt,cu]at h5;exact h5
theorem Mem.setVec {l:List Vec} {x y:Vec} {cs:List Value} (M:Mem prog w0 X w (.ow (.sl (l.map Vec.toD)) 36 [.slice A n c]:: .ow y.toD 38 cs::R)) (hk:l[k]?=some x):
 ∃g,A=some ⟨g,0,none⟩/\cs.length=8/\(∀j,j<8->∃u,w.cell? ⟨g,k*8+j,none⟩=some u)/\(∀j,w.frozen? ⟨g,j,none⟩=false)/\g<w.heap.size/\
  Mem prog w0 X (xB w g (k*8) cs) (.ow (.sl ((l.set k y).map Vec.toD)) 36 [.slice (some ⟨g,0,none⟩) n c]::R):=by
 have h8:∀{w:World} {z:Vec} {F:List Nat} {cs:List Value},own prog w z.toD 38 F cs->cs.length=8:=λh=>by obtain⟨_,_,_,_,_,_,_,_,_,_,_,_,_,_,_,_,_,_,_,_,rfl,-⟩:=jE h;rfl
 obtain⟨F,ho⟩:=M.own_ (d:=y.toD) (t:=38) (cs:=cs) dR;have hc:=h8 ho;obtain⟨g,h1,h2,h3,h4,h5⟩:=Mem.setEl (k:=k) (d:=x.toD) M underlying36 sC (λF cs h=>by rw[hc,h8 h]);rw[hc]at h2 h5;rw[<-dH]at h5;exact⟨g,h1,hc,h2,h3,h4,h5⟩
end
theorem pN (k:Int) (hk:¬k=5) (Ai:Option Addr) (ni ci:Nat) (Ap:Option Addr) (np cp:Nat) (An:Option Addr) (nn cn:Nat) (Ac:Option Addr) (nc cc:Nat) (Al:Option Addr) (nl cl:Nat) (co en:Int) (hl:(ni:Int)+np<=1000000) (w:World):
 Calls prog 107 #[.agg #[k,.slice Ai ni ci,.slice Ap np cp,.slice An nn cn,.slice Ac nc cc,.slice Al nl cl,co,en]] w λe w'=>e= .returned (.int .i64 ((ni+np:Nat):Int))/\Below w.heap.size w w':=by
 have hd:(k==5)=false:=jg;go_enter func107,ntmps107;go_wp2_with fail;go_ret;exact⟨eZ dP,(Below.refl _ _).alloc (af _) _⟩
theorem t8 (k:Int) (hk:¬k=5) (Ai:Option Addr) (ni ci:Nat) (Ap:Option Addr) (np cp:Nat) (An:Option Addr) (nn cn:Nat) (Ac:Option Addr) (nc cc:Nat) (Al:Option Addr) (nl cl:Nat) (co en:Int) (hl:(ni:Int)+np<=1000000) (w:World):
 Calls prog 118 #[.agg #[k,.slice Ai ni ci,.slice Ap np cp,.slice An nn cn,.slice Ac nc cc,.slice Al nl cl,co,en]] w λe w'=>e= .returned (.int .i64 ((ni+np:Nat):Int))/\Below w.heap.size w w':=by
 have hd:(k==5)=false:=jg;go_enter func118,ntmps118;go_wp2_with fail;go_ret;exact⟨eZ dP,(Below.refl _ _).alloc (af _) _⟩
theorem EA:∀(v:Vec) (cs:List Value) (w:World),rep w w.heap.size v.toD cs->bigV v->
 Calls prog 132 #[av cs] w λe w'=>e= .returned (.bool (mJ v))/\Below w.heap.size w w':=iH λv ih=>by
 intro cs w h ga;have Wr:=aa (xW v);obtain⟨Ai,ni,ci,Ap,np,cp,An,nn,cn,Ac,nc,cc,Al,nl,cl,rfl,hv⟩:=iy h;have q0:=(Below.refl w.heap.size w).alloc (af _) (.cells (vc v Ai ni ci Ap np cp An nn cn Ac nc cc Al nl cl).toArray 38);have L_:=Blk.new_ w 38 (vc v Ai ni ci Ap np cp An nn cn Ac nc cc Al nl cl).toArray;have mD:=hv.pab;unfold maxLen at mD;have Mn:=aa mD.2.2;have OA:np<=9223372036854775807:=dP;have xo:=aa ih;clear ih mD;go_enter func132,ntmps132;go_wp2_with fail;refine(ET v _ _ (fM h q0) ga).mono ?_;rintro e w1 ⟨rfl,hb1⟩;have q1:=ij q0 hb1;have c2:w1.cell? ⟨w.heap.size,2,none⟩=some (.slice Ap np cp):=(L_.next hb1).cell 2;cases hsh:h_ v with
 |false=>
  go_wp2_with fail;go_ret;exact⟨dZ (by rw[Wr.out,hsh];rfl),q1⟩
 |true=>
 go_wp2_with fail;go_loopw [11] (λi wr=>∃k:Nat,k<=np/\i= .int .i64 k/\(v.parts.take k).all mJ=true/\Below w.heap.size w wr) (λi _=>np - (intOf i).toNat)
 case atStart=>exact⟨0,by omega,rfl,rfl,q1⟩
 case round=>
  obtain⟨k,hk,rfl,hf,hb⟩:=hrel;have HF:=aa hf;clear hf;by_cases hlt:k<np
  ·obtain⟨b,off,x,Ru,SN,RP,Rx,SP,RS,Ct,CE,Hw,L4,JS,L7,Rv,SO,Mz,rfl,gD,hx,fE,hvx,c0,c1,c2,c3,c4,c5,c6,c7⟩:=rz (fF hv.pa hb) hlt;have HX:=aa hx;have HM:=aa (aA hx);clear hx;have q2:=hb.alloc hb.size (.cells (vc x Ru SN RP Rx SP RS Ct CE Hw L4 JS L7 Rv SO Mz).toArray 38);go_wp2_with fail;refine(xo.out x HM.out _ _ (fb fE (Below.alloc (Below.refl _ _) hb.size _) sx) (ga.part HM.out)).mono ?_;rintro e w2 ⟨rfl,jS⟩;cases hq:mJ x with
   |false=>
    go_wp2_with fail;go_ret;exact⟨dZ (by rw[Wr.out,nN HX.out hq];simp),ij q2 jS⟩
   |true=>
    go_wp2_with fail;go_roundw
    case rel=>exact⟨k+1,by omega,by go_num,iY HX.out HF.out hq,ij q2 jS⟩
    case measure=>simp [intOf];omega
  ·obtain rfl:k=np:=dP;go_wp2_with fail;go_ret;exact⟨dZ (by have:=HF.out;rw[aC lk]at this;rw[Wr.out,this,hsh];rfl),hb⟩
theorem ff (v:Vec) (cs:List Value) (w:World) (h:rep w w.heap.size v.toD cs) (ga:bigV v):
 Calls prog 64 #[av cs] w λe w'=>e= .returned (.bool (isVec v))/\Below w.heap.size w w':=by
 have hcb:=ga.cells;obtain⟨Ai,ni,ci,Ap,np,cp,An,nn,cn,Ac,nc,cc,Al,nl,cl,rfl,hv⟩:=iy h;have q0:=(Below.refl w.heap.size w).alloc (af _) (.cells (vc v Ai ni ci Ap np cp An nn cn Ac nc cc Al nl cl).toArray 38);have L_:=Blk.new_ w 38 (vc v Ai ni ci Ap np cp An nn cn Ac nc cc Al nl cl).toArray;have HI:=aa (show isVec v=(decide (mQ 4 v<=3)&&mJ v&&decide (jF v<=200)) by rw[isVec,abX]);go_enter func64,ntmps64;go_wp2_with fail;refine(Vn 4 dP v _ _ (fM h q0)).mono ?_;rintro e w1 ⟨rfl,hb1⟩;have q1:=ij q0 hb1;obtain⟨hc1,_⟩:=fY hb1;simp only[dT]at hc1;by_cases hn:mQ 4 v<=3
 case neg=>
  have hd:decide ((mQ 4 v:Int)<=3)=false:=aK dP;have HB:=aa (show isVec v=false by rw[HI.out,aK hn];rfl);clear hn;go_wp2_with fail;go_ret;exact⟨dZ HB.out.symm,q1⟩
 have hd:decide ((mQ 4 v:Int)<=3)=true:=aM dP;have HI2:=aa (show isVec v=(mJ v&&decide (jF v<=200)) by rw[HI.out,aM hn];rfl);clear hn;go_wp2_with fail;refine(EA v _ _ (fM (fM h q0) hb1) ga).mono ?_;rintro e w2 ⟨rfl,jS⟩;have q2:=ij q1 jS;obtain⟨hc2,_⟩:=fY jS;have y1:w.heap.size<w1.heap.size:=ace;cases hp:mJ v with
 |false=>
  go_wp2_with fail;go_ret;exact⟨dZ (by rw[HI2.out,hp];rfl),q2⟩
 |true=>
 go_wp2_with fail;refine(RN v _ _ (fM (fM (fM h q0) hb1) jS) ga).mono ?_;rintro e w3 ⟨rfl,lE⟩;have HR:=aa (show isVec v=decide (jF v<=200) by rw[HI2.out,hp];rfl);go_wp2_with fail;go_ret;exact⟨dZ (by rw[HR.out,dL];omega),ij q2 lE⟩
theorem Ny (d:Nat) (Us:(d:Int)<=100):isP d:=by
 induction d with
 |zero=>exact QZ 0 Us (λd' h=>by omega)
 |succ d ih=>
  refine QZ (d+1) Us (λd' h=>?_);have hdd:d'=d:=dP;rw[hdd];exact ih dP
theorem ew (v:Vec) (cs:List Value) (w:World) (h:rep w w.heap.size v.toD cs) (ga:bigV v):
 Calls prog 67 #[av cs] w λe w'=>e= .returned (.bool (isVec v))/\Below w.heap.size w w':=by
 have hcb:=ga.cells;obtain⟨Ai,ni,ci,Ap,np,cp,An,nn,cn,Ac,nc,cc,Al,nl,cl,rfl,hv⟩:=iy h;have q0:=(Below.refl w.heap.size w).alloc (af _) (.cells (vc v Ai ni ci Ap np cp An nn cn Ac nc cc Al nl cl).toArray 38);go_enter func67,ntmps67;go_wp2_with fail;refine(Ny 3 dP v _ _ (fM h q0) ga).mono ?_;rintro e w1 ⟨rfl,hb1⟩;have q1:=ij q0 hb1;obtain⟨hc1,_⟩:=fY hb1;simp only[dT]at hc1;cases hp:okD 3 v with
 |false=>
  go_wp2_with fail;go_ret;exact⟨dZ (by rw[isVec,hp];rfl),q1⟩
 |true=>
 go_wp2_with fail;refine(Nx v _ _ (fM (fM h q0) hb1) ga).mono ?_;rintro e w2 ⟨rfl,jS⟩;have HR:=aa (show isVec v=decide (jF v<=200) by rw[isVec,hp];rfl);go_wp2_with fail;go_ret;exact⟨dZ (by rw[HR.out,dL];omega),ij q1 jS⟩
def AV (x:Hop):Bool:=
 if x.kind=0 then x.frm.isEmpty&&decide (x.at_=0)
 else if x.kind=2 then x.frm.isEmpty&&decide (1<=x.at_/\x.at_<=40)&&atomK x.value.kind&&decide (x.value.items.length=1)
 else if x.kind=1\/x.kind=3 then isNm x.frm&&decide (x.at_=0/\x.value.kind=0) else false
def je (x:Hop):Bool:=isNm x.name&&isVec x.value&& !xN x.value&&AV x
theorem kS (x:Hop) (cs:List Value) (w:World) (h:rep w w.heap.size x.toD cs) (ga:bigV x.value):
 Calls prog 36 #[av cs] w λe w'=>e= .returned (.bool (je x))/\Below w.heap.size w w':=by
 obtain⟨Ai,ni,ci,Ap,np,cp,An,nn,cn,Ac,nc,cc,Al,nl,cl,rfl,wk,wn,wf,wa,gF⟩:=lQ h;obtain⟨Ru,SN,RP,Rx,SP,RS,Ct,CE,Hw,L4,JS,L7,Rv,SO,Mz,lK,hv⟩:=iy gF;injection lK with _ lK;injection lK with e1 lK;injection lK with e2 lK;injection lK with e3 lK;injection lK with e4 lK;injection lK with e5 lK
 injection e1 with e11 e12 e13;subst e11 e12 e13
 have OQ:=aa hv.it.len;have L_:=Blk.new_ w 40 #[x.kind,sv x.name,sv x.frm,x.at_,x.value.kind,.slice Ai ni ci,.slice Ap np cp,.slice An nn cn,.slice Ac nc cc,.slice Al nl cl,x.value.code,x.value.env];have q0:=(Below.refl w.heap.size w).alloc (af _) (.cells #[x.kind,sv x.name,sv x.frm,x.at_,x.value.kind,.slice Ai ni ci,.slice Ap np cp,.slice An nn cn,.slice Ac nc cc,.slice Al nl cl,x.value.code,x.value.env] 40);have HI:=aa (show je x=(isNm x.name&&isVec x.value&& !xN x.value&&AV x) from rfl);clear e2 e3 e4 e5 lK;go_enter func36,ntmps36;go_wp2_with fail;refine(jK x.name _ wn).mono ?_;rintro e w1 ⟨rfl,rfl⟩;cases hn:isNm x.name with
 |false=>
  go_wp2_with fail;go_ret;exact⟨dZ (by rw[HI.out,hn];rfl),q0⟩
 |true=>
 go_wp2_with fail;refine(ff x.value _ _ (fM gF q0) ga).mono ?_;rintro e w2 ⟨rfl,jS⟩;have q2:=ij q0 jS;have U9:=L_.next jS;obtain⟨hc2,_⟩:=fY jS;simp only[dT]at hc2;cases hvv:isVec x.value with
 |false=>
  go_wp2_with fail;go_ret;exact⟨dZ (by rw[HI.out,hn,hvv];rfl),q2⟩
 |true=>
 go_wp2_with fail;refine(Cg x.value _ _ (fM (fM gF q0) jS)).mono ?_;rintro e w3 ⟨rfl,lE⟩;have q3:=ij q2 lE;have tz:=U9.next lE;have c0:=tz.cell 0;have c2:=tz.cell 2;have c3:=tz.cell 3;have c4:=tz.cell 4;have c5:=tz.cell 5;have c6:=tz.cell 6;have c7:=tz.cell 7;have c8:=tz.cell 8;have c9:=tz.cell 9;have c10:=tz.cell 10;have c11:=tz.cell 11;simp only[ah,ag]at c0 c2 c3 c4 c5 c6 c7 c8 c9 c10 c11;clear hc2;cases hff:xN x.value with
 |true=>
  go_wp2_with fail;go_ret;exact⟨dZ (by rw[HI.out,hn,hvv,hff];rfl),q3⟩
 |false=>
 have HR:=aa (show je x=AV x by rw[HI.out,hn,hvv,hff];rfl);by_cases k0:x.kind=0
 ·exact F0
 have t0:(x.kind==0)=false:=by simpa using k0
 by_cases k2:x.kind=2
 ·have t2:(x.kind==2)=true:=ot;have HK:=aa (show je x=(x.frm.isEmpty&&decide (1<=x.at_/\x.at_<=40)&&atomK x.value.kind&&decide (ni=1)) by rw[HR.out,AV,aH k0,aN k2,OQ.out]);clear k0 k2;cases hfe:x.frm.isEmpty with
  |false=>
   go_wp2_with fail;go_ret;exact⟨dZ (by rw[HK.out,hfe];rfl),q3⟩
  |true=>
  by_cases ha:1<=x.at_/\x.at_<=40
  case neg=>
   have HB:=aa (show je x=false by rw[HK.out,aK ha];simp);have HA:=aa ha;clear ha;go_wp2_with fail;all_goals first|(go_ret;exact⟨dZ HB.out.symm,q3⟩)|(exfalso;apply HA.out;omega)
  have a1:decide (1<=x.at_)=true:=aM ha.1;have a2:decide (x.at_<=40)=true:=aM ha.2;have HK2:=aa (show je x=(atomK x.value.kind&&decide (ni=1)) by rw[HK.out,hfe,aM ha];rfl);go_wp2_with fail;refine(oY x.value _ _ (fb gF q3 q3.size)).mono ?_;rintro e w4 ⟨rfl,DB⟩;have c45:=(tz.next DB).cell 5;simp only[ah,ag]at c45;cases hat:atomK x.value.kind with
  |false=>
   go_wp2_with fail;go_ret;exact⟨dZ (by rw[HK2.out,hat];rfl),ij q3 DB⟩
  |true=>
   go_wp2_with fail;go_ret;exact⟨dZ (by rw[HK2.out,hat,aj,bg];simp;omega),ij q3 DB⟩
 have t2:(x.kind==2)=false:=ot;by_cases k13:x.kind=1\/x.kind=3
 ·have HK:=aa (show je x=(isNm x.frm&&decide (x.at_=0/\x.value.kind=0)) by rw[HR.out,AV,aH k0,aH k2,aN k13]);clear k0 k2;rcases k13 with k1|k1
  case' inl=>have t1:(x.kind==1)=true:=by simpa using k1
  case' inr=>
   have t1:(x.kind==1)=false:=dS;have t3:(x.kind==3)=true:=by simpa using k1
  all_goals
   clear k1;go_wp2_with fail;refine(jK x.frm _ wf).mono ?_;rintro e w4 ⟨rfl,rfl⟩;cases hnf:isNm x.frm
   case false=>
    go_wp2_with fail;go_ret;exact⟨dZ (by rw[HK.out,hnf];rfl),q3⟩
   go_wp2_with fail;all_goals (go_ret;refine⟨dZ ?_,q3⟩;rw[HK.out,hnf,aj,bg];simp [*])
 ·have t1:(x.kind==1)=false:=dS;have t3:(x.kind==3)=false:=dS;have HK:=aa (show je x=false by rw[HR.out,AV,aH k0,aH k2,aH k13]);clear k0 k2 k13;go_wp2_with fail;go_ret;exact⟨dZ HK.out.symm,q3⟩
theorem kZ (x:Hop) (cs:List Value) (w:World) (h:rep w w.heap.size x.toD cs) (ga:bigV x.value):
 Calls prog 47 #[av cs] w λe w'=>e= .returned (.bool (je x))/\Below w.heap.size w w':=by
 obtain⟨Ai,ni,ci,Ap,np,cp,An,nn,cn,Ac,nc,cc,Al,nl,cl,rfl,wk,wn,wf,wa,gF⟩:=lQ h;obtain⟨Ru,SN,RP,Rx,SP,RS,Ct,CE,Hw,L4,JS,L7,Rv,SO,Mz,lK,hv⟩:=iy gF;injection lK with _ lK;injection lK with e1 lK;injection lK with e2 lK;injection lK with e3 lK;injection lK with e4 lK;injection lK with e5 lK
 injection e1 with e11 e12 e13;subst e11 e12 e13
 have OQ:=aa hv.it.len;have L_:=Blk.new_ w 40 #[x.kind,sv x.name,sv x.frm,x.at_,x.value.kind,.slice Ai ni ci,.slice Ap np cp,.slice An nn cn,.slice Ac nc cc,.slice Al nl cl,x.value.code,x.value.env];have q0:=(Below.refl w.heap.size w).alloc (af _) (.cells #[x.kind,sv x.name,sv x.frm,x.at_,x.value.kind,.slice Ai ni ci,.slice Ap np cp,.slice An nn cn,.slice Ac nc cc,.slice Al nl cl,x.value.code,x.value.env] 40);have HI:=aa (show je x=(isNm x.name&&isVec x.value&& !xN x.value&&AV x) from rfl);clear e2 e3 e4 e5 lK;go_enter func47,ntmps47;go_wp2_with fail;refine(gj _ _ _ _).mono ?_;rintro e w1 ⟨rfl,rfl⟩;cases hk:decide (0<=x.kind/\x.kind<=3) with
 |false=>
  have HB:=aa (show je x=false by have:=dm hk;rw[HI.out,AV,aH dP,aH dP,aH dP];simp)
  go_wp2_with fail;go_ret;exact⟨dZ HB.out.symm,q0⟩
 |true=>
 have hk':=cD hk;clear hk;go_wp2_with fail;refine(jL x.name _ wn).mono ?_;rintro e w1 ⟨rfl,rfl⟩;cases hn:isNm x.name with
 |false=>
  go_wp2_with fail;go_ret;exact⟨dZ (by rw[HI.out,hn];rfl),q0⟩
 |true=>
 go_wp2_with fail;refine(ew x.value _ _ (fM gF q0) ga).mono ?_;rintro e w2 ⟨rfl,jS⟩;have q2:=ij q0 jS;have U9:=L_.next jS;obtain⟨hc2,_⟩:=fY jS;simp only[dT]at hc2;cases hvv:isVec x.value with
 |false=>
  go_wp2_with fail;go_ret;exact⟨dZ (by rw[HI.out,hn,hvv];rfl),q2⟩
 |true=>
 go_wp2_with fail;refine(xT x.value _ _ (fM (fM gF q0) jS)).mono ?_;rintro e w3 ⟨rfl,lE⟩;have q3:=ij q2 lE;have tz:=U9.next lE;have c0:=tz.cell 0;have c2:=tz.cell 2;have c3:=tz.cell 3;have c4:=tz.cell 4;have c5:=tz.cell 5;simp only[ah,ag]at c0 c2 c3 c4 c5;clear hc2;cases hff:xN x.value with
 |true=>
  go_wp2_with fail;go_ret;exact⟨dZ (by rw[HI.out,hn,hvv,hff];rfl),q3⟩
 |false=>
 have HR:=aa (show je x=AV x by rw[HI.out,hn,hvv,hff];rfl);by_cases k0:x.kind=0
 ·exact F0
 have t0:(x.kind==0)=false:=by simpa using k0
 by_cases k2:x.kind=2
 ·have t2:(x.kind==2)=true:=ot;have HK:=aa (show je x=(x.frm.isEmpty&&decide (1<=x.at_/\x.at_<=40)&&atomK x.value.kind&&decide (ni=1)) by rw[HR.out,AV,aH k0,aN k2,OQ.out]);clear k0 k2;cases hfe:x.frm.isEmpty with
  |false=>
   go_wp2_with fail;go_ret;exact⟨dZ (by rw[HK.out,hfe];rfl),q3⟩
  |true=>
  go_wp2_with fail;refine(gj _ _ _ _).mono ?_;rintro e w4 ⟨rfl,rfl⟩;cases ha:decide (1<=x.at_/\x.at_<=40) with
  |false=>
   go_wp2_with fail;go_ret;exact⟨dZ (by rw[HK.out,ha];simp),q3⟩
  |true=>
  go_wp2_with fail;refine(gj _ _ _ _).mono ?_;rintro e w4 ⟨rfl,rfl⟩;cases hat:decide (1<=x.value.kind/\x.value.kind<=3) with
  |false=>
   go_wp2_with fail;go_ret;exact⟨dZ (by rw[HK.out,atomK,hat];simp),q3⟩
  |true=>
   go_wp2_with fail;go_ret;exact⟨dZ (by rw[HK.out,atomK,hat,ha,hfe,aj,aj,aj,bg];simp;omega),q3⟩
 have t2:(x.kind==2)=false:=ot;have HK:=aa (show je x=(isNm x.frm&&decide (x.at_=0/\x.value.kind=0)) by rw[HR.out,AV,aH k0,aH k2,aN dP]);clear k0 k2;go_wp2_with fail;refine(jL x.frm _ wf).mono ?_;rintro e w4 ⟨rfl,rfl⟩;cases hnf:isNm x.frm with
 |false=>
  go_wp2_with fail;go_ret;exact⟨dZ (by rw[HK.out,hnf];rfl),q3⟩
 |true=>
 go_wp2_with fail;all_goals (go_ret;refine⟨dZ ?_,q3⟩;rw[HK.out,hnf,aj,bg];simp [*])
def gy:List Cel->Nat->Option Nat
 |[],_=>none
 |c::t,i=>if c.count=0 then some i else gy t (i+1)
theorem uZ {l:List Cel} {c:Cel} (hc:l[i]?=some c):gy (l.drop i) i=if c.count=0 then some i else gy (l.drop (i+1)) (i+1):=by
 have hi:=(ay.1 hc).1;rw[cR hi];rw[aw hi]at hc;injection hc with hc
 rw[gy,hc]
def gH (h:Hp) (c:Cel):Hp × Int:=match gy h.cells 0 with
 |some k=>(eG h k c,k)
 |none=>({h with cells:=h.cells++[c]},h.cells.length)
def lf:Cel:=⟨0,zeroV,[]⟩
def KP (c:Cel):Cel:={c with count:=c.count - 1}
def gE (c:Cel):Cel:={c with count:=c.count+1}
def iD:Nat->Hp->Int->Hp
 |0,h,_=>h
 |f+1,h,k=>if 0<(celD h k).count - 1 then eG h k.toNat (KP (celD h k)) else (celD h k).parts.foldl (iD f) (eG h k.toNat lf)
def allOK (ok:Hp->Int->Prop) (st:Hp->Int->Hp):Hp->List Int->Prop
 |_,[]=>True
 |h,p::t=>ok h p/\allOK ok st (st h p) t
def Xd (z:Int):Prop:= -1152921504606846976<=z/\z<=1152921504606846976
def relOK:Nat->Hp->Int->Prop
 |0,_,_=>False
 |f+1,h,k=>inR h k=true/\Xd (celD h k).count/\(0<(celD h k).count - 1\/allOK (relOK f) (iD f) (eG h k.toNat lf) (celD h k).parts)
def fd (h:Hp) (s:Str) (k:Int):Hp:=if 0<=ix h.names s 0 then iD 5 {h with slots:=h.slots.set (ix h.names s 0).toNat k} (slotD h s) else {h with names:=h.names++[s],slots:=h.slots++[k]}
theorem Blk.inj {cs':List Value} (h:Blk w g t cs) (h':Blk w g t' cs'):cs=cs':=by have:=h.symm.trans h';injection this with this;injection this with e1;simpa using e1
theorem pz {L4 Ct Wl:Option Addr}{cs JS L7 CE Hw WG cs':Nat} (k:Blk w g t (px h Ac nc cc An nn cn Aj ns cs)) (k':Blk w g t' (px h L4 JS L7 Ct CE Hw Wl WG cs')):
 Ac=L4/\nc=JS/\cc=L7/\An=Ct/\nn=CE/\cn=Hw/\Aj=Wl/\ns=WG/\cs=cs':=by
 have e:=k.inj k';simp only[px,bF,bG,cO]at e;obtain⟨⟨a,b,c⟩,⟨d,e,f⟩,g,h,i⟩:=e;exact⟨a,b,c,d,e,f,g,h,i⟩
theorem Blk.put10 {h i a' b' c' d' e' f' h' i' j' k':Value} (q:Blk w g t (pre++([a,b,c,d,e,f,h,i,j,k]++post))) (hp:pre.length=m):
 Blk ((((((((((w.setCell ⟨g,m,none⟩ a').setCell ⟨g,m+1,none⟩ b').setCell ⟨g,m+2,none⟩ c').setCell ⟨g,m+3,none⟩ d').setCell ⟨g,m+4,none⟩ e').setCell ⟨g,m+5,none⟩ f').setCell ⟨g,m+6,none⟩ h').setCell ⟨g,m+7,none⟩ i').setCell ⟨g,m+8,none⟩ j').setCell ⟨g,m+9,none⟩ k') g t (pre++([a',b',c',d',e',f',h',i',j',k']++post)):=by
 have q0:=q.put_ hp (j:=0) (o:=m) dR rfl a';have q1:=q0.put_ hp (j:=1) (o:=m+1) dR rfl b';have q2:=q1.put_ hp (j:=2) (o:=m+2) dR rfl c';have q3:=q2.put_ hp (j:=3) (o:=m+3) dR rfl d';have q4:=q3.put_ hp (j:=4) (o:=m+4) dR rfl e';have q5:=q4.put_ hp (j:=5) (o:=m+5) dR rfl f';have q6:=q5.put_ hp (j:=6) (o:=m+6) dR rfl h';have q7:=q6.put_ hp (j:=7) (o:=m+7) dR rfl i';have q8:=q7.put_ hp (j:=8) (o:=m+8) dR rfl j';exact q8.put_ hp (j:=9) (o:=m+9) dR rfl k'
theorem Q3 {h i:Value} (hg:g∈F):
 Mod F w ((((((((((w.setCell ⟨g,m,none⟩ a).setCell ⟨g,m+1,none⟩ b).setCell ⟨g,m+2,none⟩ c).setCell ⟨g,m+3,none⟩ d).setCell ⟨g,m+4,none⟩ e).setCell ⟨g,m+5,none⟩ f).setCell ⟨g,m+6,none⟩ h).setCell ⟨g,m+7,none⟩ i).setCell ⟨g,m+8,none⟩ j).setCell ⟨g,m+9,none⟩ k):=by
 have p:∀(w:World) (o:Nat) (u:Value),Mod F w (w.setCell ⟨g,o,none⟩ u):=λw o u=>Mod.poke (F:=F) (p:=⟨g,o,none⟩) hg u;exact iV (iV (iV (iV (iV (iV (iV (iV (iV (p _ _ _) (p _ _ _) (λ_ h=>h)) (p _ _ _) (λ_ h=>h)) (p _ _ _) (λ_ h=>h)) (p _ _ _) (λ_ h=>h)) (p _ _ _) (λ_ h=>h)) (p _ _ _) (λ_ h=>h)) (p _ _ _) (λ_ h=>h)) (p _ _ _) (λ_ h=>h)) (p _ _ _) (λ_ h=>h)
theorem Blk.d10 {h i:Value} (q:Blk w g t [a,b,c,d,e,f,h,i,j,k]):w.cell? ⟨g,0,none⟩=some a/\w.cell? ⟨g,1,none⟩=some b/\w.cell? ⟨g,2,none⟩=some c/\w.cell? ⟨g,3,none⟩=some d/\w.cell? ⟨g,4,none⟩=some e/\w.cell? ⟨g,5,none⟩=some f/\w.cell? ⟨g,6,none⟩=some h/\w.cell? ⟨g,7,none⟩=some i/\w.cell? ⟨g,8,none⟩=some j/\w.cell? ⟨g,9,none⟩=some k:=
 ⟨q.cell 0,q.cell 1,q.cell 2,q.cell 3,q.cell 4,q.cell 5,q.cell 6,q.cell 7,q.cell 8,q.cell 9⟩
theorem Blk.e10 {h i:Value} (q:Blk w g t (pre++([a,b,c,d,e,f,h,i,j,k]++post))) (hp:pre.length=m):w.cell? ⟨g,m,none⟩=some a/\w.cell? ⟨g,m+1,none⟩=some b/\w.cell? ⟨g,m+2,none⟩=some c/\w.cell? ⟨g,m+3,none⟩=some d/\w.cell? ⟨g,m+4,none⟩=some e/\w.cell? ⟨g,m+5,none⟩=some f/\w.cell? ⟨g,m+6,none⟩=some h/\w.cell? ⟨g,m+7,none⟩=some i/\w.cell? ⟨g,m+8,none⟩=some j/\w.cell? ⟨g,m+9,none⟩=some k:=
 ⟨q.elem hp 0 dR,q.elem hp 1 dR,q.elem hp 2 dR,q.elem hp 3 dR,q.elem hp 4 dR,q.elem hp 5 dR,q.elem hp 6 dR,q.elem hp 7 dR,q.elem hp 8 dR,q.elem hp 9 dR⟩
theorem Blk.fr10 (q:Blk w g t cs):w.frozen? ⟨g,m,none⟩=false/\w.frozen? ⟨g,m+1,none⟩=false/\w.frozen? ⟨g,m+2,none⟩=false/\w.frozen? ⟨g,m+3,none⟩=false/\w.frozen? ⟨g,m+4,none⟩=false/\w.frozen? ⟨g,m+5,none⟩=false/\w.frozen? ⟨g,m+6,none⟩=false/\w.frozen? ⟨g,m+7,none⟩=false/\w.frozen? ⟨g,m+8,none⟩=false/\w.frozen? ⟨g,m+9,none⟩=false:=
 ⟨q.frozen _,q.frozen _,q.frozen _,q.frozen _,q.frozen _,q.frozen _,q.frozen _,q.frozen _,q.frozen _,q.frozen _⟩
theorem T4 {c:Cel} (h:own P w c.toD t F (a::r)):own P w (Cel.toD {c with count:=1}) t F (.int .i64 1::r):=by
 rw[m7,own]at h ⊢;obtain⟨KW,css,h1,h2,h3⟩:=h;rw[iB]at h3;obtain⟨t1,t2,F1,F2,c1,c2,e1,rfl,rfl,h4,h5⟩:=h3;rw[own]at h4;obtain⟨rfl,rfl,_⟩:=h4;refine⟨KW,[.int .i64 1]::c2,h1,?_,?_⟩
 ·simp at h2 ⊢;exact h2.2
 ·rw[iB];exact⟨t1,t2,[],F2,_,c2,e1,rfl,rfl,by rw[own];exact⟨rfl,rfl,kP.2 dR⟩,h5⟩
theorem Bg:ElemTy prog 24 43 10 176:=by obtain⟨i0,hi,rJ,tW,hz2⟩:=cZ Mj;exact⟨i0,_,underlying24,hi,rJ,tW,hz2,rfl,by omega⟩
theorem Dm {c:Cel} (h:own P w c.toD t F (a::r)) {z:Int} (hz:(Lit.int .i64 z).wf=true):own P w (Cel.toD {c with count:=z}) t F (.int .i64 z::r):=by
 rw[m7,own]at h ⊢;obtain⟨KW,css,h1,h2,h3⟩:=h;rw[iB]at h3;obtain⟨t1,t2,F1,F2,c1,c2,e1,rfl,rfl,h4,h5⟩:=h3;rw[own]at h4;obtain⟨rfl,rfl,_⟩:=h4;refine⟨KW,[.int .i64 z]::c2,h1,?_,?_⟩
 ·simp at h2 ⊢;exact h2.2
 ·rw[iB];exact⟨t1,t2,[],F2,_,c2,e1,rfl,rfl,by rw[own];exact⟨rfl,rfl,hz⟩,h5⟩
theorem JY (w:World):own prog w lf.toD 43 [] [.int .i64 0,.int .i64 0,(),(),(),(),(),.int .i64 0,.int .i64 0,()]:=
 uO (x:=lf) (Fvalue:=[]) (Fparts:=[]) dQ (ST w) (kY underlying26)
theorem rT {α:Type} {f:α->Int->α} {a:α} {j:Nat} (h:l[j]?=some y):(l.take (j+1)).foldl f a=f ((l.take j).foldl f a) y:=by rw[List.take_add_one,h,List.foldl_append];rfl
theorem qR {ok:Hp->Int->Prop} {st:Hp->Int->Hp}:∀{l:List Int} {h:Hp} {j:Nat} {y:Int},allOK ok st h l->l[j]?=some y->ok ((l.take j).foldl st h) y
 |[],_,_,_,_,h'=>by simp at h'
 |p::t,h,0,y,ho,h'=>by simp at h';subst h';rw[allOK]at ho;exact ho.1
 |p::t,h,j+1,y,ho,h'=>by simp at h';rw[allOK]at ho;rw[cG,bC];exact qR ho.2 h'
theorem AG {Q:List Nat} (hq:∀y∈Q,y ∉ g::F) (hl:∀y∈Q,y<B) (s:Sub B F G):∀y∈Q,y ∉ g::G:=λy hy hm=>by
 rcases aX.1 hm with e|hm
 ·exact hq y hy mr
 ·rcases s y hm with h1|h1
  ·exact hq y hy kw
  ·have:=hl y hy;omega
theorem Kh:ElemTy prog 26 3 1 8:=GR
theorem Qz (h:(g::(X++(Y++Z))).Nodup) (hl:Lo B (g::(X++(Y++Z)))) (ap:AppF B Y [] Y'):(g::(X++(Y'++Z))).Nodup/\Sub B (X++(Y++Z)) (X++(Y'++Z))/\g ∉ Y':=by
 have hY:∀y∈Y',y∈Y\/B<=y:=λy hy=>by
  rcases ap.2 y hy with h1|h1|h1
  ·exact .inl h1
  ·simp at h1
  ·exact .inr dP
 refine⟨ub (X:=g::X) (Y:=Y) (Z:=Z) (Y':=Y') h ap.1 (λy hy=>?_),λy hy=>?_,λhm=>?_⟩
 ·rcases hY y hy with h1|h1
  ·exact .inl h1
  ·exact .inr (λhm=>by have:=hl y (by simpa using hm);omega)
 ·rcases aG.1 hy with hy|hy
  ·exact .inl eK
  ·rcases aG.1 hy with hy|hy
   ·rcases hY y hy with h1|h1
    ·exact .inl kw
    ·exact .inr h1
   ·exact .inl eK
 ·rcases hY g hm with h1|h1
  ·exact(aQ.1 h).1 kw
  ·have:=hl g dR;omega
section
variable {w w':World} {g B:Nat} {h:Hp} {Ac An Aj:Option Addr} {nc cc nn cn ns cs:Nat} {Fc Fn Fs:List Nat}
theorem HB.names_app (kB:Blk w g 28 (px h Ac nc cc An nn cn Aj ns cs)) (o1:own prog w (.sl (h.cells.map Cel.toD)) 24 Fc [.slice Ac nc cc]) (o3:own prog w (.sl (h.slots.map (D.i .i64))) 26 Fs [.slice Aj ns cs]) (wf:(Lit.int .i64 h.copies).wf=true) (nd:(g::(Fc++(Fn++(Fs++[])))).Nodup)
 (hl:Lo B (g::(Fc++(Fn++(Fs++[]))))) {yX:List Nat} {gg gc:Nat} {s:Str} (PP:own prog w' (.sl (h.names.map D.s++[D.s s])) 25 yX [.slice (some ⟨gg,0,none⟩) (nn+1) gc]) (ap:AppF B Fn [] yX) (md:Mod Fn w w'):
 ∃F',HB (w'.setCell ⟨g,1,none⟩ (.slice (some ⟨gg,0,none⟩) (nn+1) gc)) g {h with names:=h.names++[s]} F'/\Sub B (Fc++(Fn++(Fs++[]))) F':=by
 obtain⟨n1,n2,n3⟩:=Qz (X:=Fc) (Y:=Fn) (Z:=Fs++[]) nd hl ap;have hg:=(aQ.1 nd).1;have nF:=aE.1 (aQ.1 nd).2;have nG:=aE.1 nF.2.1;have IG:=(Blk.mod (g:=g) kB md (λhm=>hg eV)).set_ 1 (.slice (some ⟨gg,0,none⟩) (nn+1) gc);exact⟨_,HB.shut (h:={h with names:=h.names++[s]}) IG (ft (fH o1 md (λy hy hm=>nF.2.2 y hy y eV rfl)) (λhm=>hg eV)) (by rw[aI];exact ft PP n3) (ft (fH o3 md (λy hy hm=>nG.2.2 y hm y eK rfl)) (λhm=>hg eV)) wf n1,n2⟩
theorem HB.slots_app (kB:Blk w g 28 (px h Ac nc cc An nn cn Aj ns cs)) (o1:own prog w (.sl (h.cells.map Cel.toD)) 24 Fc [.slice Ac nc cc]) (o2:own prog w (.sl (h.names.map D.s)) 25 Fn [.slice An nn cn]) (wf:(Lit.int .i64 h.copies).wf=true) (nd:(g::(Fc++(Fn++(Fs++[])))).Nodup)
 (hl:Lo B (g::(Fc++(Fn++(Fs++[]))))) {yX:List Nat} {gg gc:Nat} {k:Int} (Vq:own prog w' (.sl (h.slots.map (D.i .i64)++[D.i .i64 k])) 26 yX [.slice (some ⟨gg,0,none⟩) (ns+1) gc]) (ap:AppF B Fs [] yX) (md:Mod Fs w w'):
 ∃F',HB (w'.setCell ⟨g,2,none⟩ (.slice (some ⟨gg,0,none⟩) (ns+1) gc)) g {h with slots:=h.slots++[k]} F'/\Sub B (Fc++(Fn++(Fs++[]))) F':=by
 obtain⟨n1,n2,n3⟩:=Qz (g:=g) (X:=Fc++Fn) (Y:=Fs) (Z:=[]) (by simpa using nd) (λy hy=>hl y (by simpa [or_assoc]using hy)) ap;have hg:=(aQ.1 nd).1;have nF:=aE.1 (aQ.1 nd).2;have nG:=aE.1 nF.2.1;have IG:=(Blk.mod (g:=g) kB md (λhm=>hg eV)).set_ 2 (.slice (some ⟨gg,0,none⟩) (ns+1) gc);exact⟨_,HB.shut (h:={h with slots:=h.slots++[k]}) IG (ft (fH o1 md (λy hy hm=>nF.2.2 y hy y eV rfl)) (λhm=>hg eV)) (ft (fH o2 md (λy hy hm=>nG.2.2 y hy y eV rfl)) (λhm=>hg eV)) (by rw[aI];exact ft Vq n3) wf (by simpa using n1),by simpa using n2⟩
end
theorem HB.slot_set (H:HB w g h F) (hi:h.slots[i]?=some y) {k:Int} (hk:(Lit.int .i64 k).wf=true):
 ∃(Ac:Option Addr) (nc cc:Nat) (An:Option Addr) (nn cn bs ns cs:Nat),Blk w g 28 (px h Ac nc cc An nn cn (some ⟨bs,0,none⟩) ns cs)/\h.slots.length=ns/\ns<=maxLen/\w.cell? ⟨bs,i,none⟩=some (.int .i64 y)/\w.frozen? ⟨bs,i,none⟩=false/\bs∈F/\bs≠g/\
  HB (w.setCell ⟨bs,i,none⟩ (.int .i64 k)) g {h with slots:=h.slots.set i k} F:=by
 have sM:=H.nd;obtain⟨Ac,nc,cc,An,nn,cn,Aj,ns,cs,Fc,Fn,Fs,kB,rfl,o1,o2,o3,wf⟩:=H.open_;have hl:=ef (eW _ _ _ _ o3);rw[au]at hl;obtain⟨bs,Fa,Fd,Fb,cx,pre,post,rfl,rfl,ox,hp,hB,hw⟩:=ta underlying26 o3 (show (h.slots.map (D.i .i64))[i]?=some (D.i .i64 y) by rw[cg,hi];rfl);rw[own]at ox;obtain⟨rfl,rfl,_⟩:=ox;replace hp:pre.length=i:=by simpa using hp
 have hg:=(aQ.1 sM).1;have Zz:bs≠g:=λe=>hg mr;have nF:=aE.1 (aQ.1 sM).2;have nG:=aE.1 nF.2.1;have hbs:bs ∉ Fa++Fb:=by have:=nG.2.1;rw[bP]at this;have:=(aQ.1 this).1;simpa using this
 have md:Mod [bs] w (w.setCell ⟨bs,i,none⟩ (.int .i64 k)):=Mod.poke dR _;have Vq:=hw (w.setCell ⟨bs,i,none⟩ (.int .i64 k)) (D.i .i64 k) [k] [] rfl (by rw[own];exact⟨rfl,rfl,hk⟩) (by have:=Blk.put_ hB hp (j:=0) (o:=i) dR gO (.int .i64 k);exact this) (λx hx=>md.2.2 x (by have:=jT _ _ _ _ o3 x (by rcases aG.1 hx with hx|hx<;>simp [hx]);exact this) (by simp;rintro rfl;exact hbs hx))
 have e0:=hB.elem hp 0 dR;refine⟨Ac,nc,cc,An,nn,cn,bs,ns,cs,kB,hl.1,by omega,e0,hB.frozen _,by simp,Zz,?_⟩;rw[<-dH]at Vq;exact HB.shut (h:={h with slots:=h.slots.set i k}) (Blk.mod (g:=g) kB md (by simp;exact Zz.symm)) (fH o1 md (λy hy hm=>by simp at hm;subst hm;exact nF.2.2 y hy y dR rfl)) (fH o2 md (λy hy hm=>by simp at hm;subst hm;exact nG.2.2 y hy y dR rfl)) Vq wf sM
def EN (f:Nat):Prop:=∀(h:Hp) (k:Int) (g:Nat) (F:List Nat) (w:World),HB w g h F->relOK f h k->Calls prog 103 #[.pointer (some ⟨g,0,none⟩),k] w λe w'=>e= .returned (.tuple #[])/\∃F',HB w' g (iD f h k) F'/\Sub w.heap.size F F'/\Mod (g::F) w w'
theorem PZ (f:Nat) (ih:EN f):EN (f+1):=by
 intro h k g F w H hok;rw[relOK]at hok;obtain⟨hin,xe,zN⟩:=hok;obtain⟨i,x,rfl,hil,hx,ld⟩:=kU hin;rw[ld]at xe zN;rw[aU]at zN;have hrd:iD (f+1) h (i:Int)=if 0<x.count - 1 then eG h i (KP x) else x.parts.foldl (iD f) (eG h i lf):=by rw[iD,ld,aU]
 obtain⟨bc,nc,nd,An,nn,na,As,ns,nb,Fx,cx,pre,post,kB,hl,hm,ox,Ix,Zw,hp,hB,Po,qo,ZK,Zz,Lb⟩:=H.cell_ hx;obtain⟨Ei,ui,vi,Ep,up,vp,En,un,vn,Ec,uc,vc,El,ul,vl,Ez,uq,vq,G1,G2,G3,G4,G5,G6,rfl,hFx,q1,q2,q3,q4,q5,q6⟩:=jp ox;obtain⟨e0,e1,e2,e3,e4,e5,e6,e7,e8,e9⟩:=hB.e10 hp;obtain⟨f0,f1,f2,f3,f4,f5,f6,f7,f8,f9⟩:=hB.fr10 (m:=i*10);have hlq:=ef (eW _ _ _ _ q6);rw[au]at hlq;obtain⟨Ww,hb1⟩:=xe;have hlt:(i:Int)<(nc:Int):=dP;have i0:(0:Int)<=(i:Int):=dP;have JA:=H.lt;have hbs:bc<w.heap.size:=H.lo bc (aP _ Po);have HRD:=aa hrd;have xo:=aa ih;have HX:=aa hx;obtain⟨g0,g1,g2,g3⟩:=kB.c4;have HLQ:=aa hlq;have huq:(uq:Int)<=9223372036854775807:=by have:=hlq.2.2;unfold maxLen at this;omega
 have HL:=aa hl;clear hin ld hrd ih hx hlq hl hil q1 q2 q3 q4 q5;by_cases hpos:0<x.count - 1
 ·have HP:=aa hpos;have d1:decide (0<x.count - 1)=true:=by simpa using hpos
  go_enter func103,ntmps103;go_wp2_with fail;refine bM (v:= .tuple #[]) (by simp [results,results103,go_sem]) rfl ?_;rw[HRD.out,aN HP.out];have md:Mod (bc::Fx) w (w.setCell ⟨bc,i*10,none⟩ (.int .i64 (x.count - 1))):=Mod.mono (F:=[bc]) (Mod.poke (F:=[bc]) dR _) dR;obtain⟨F',HF,xR⟩:=Lb _ (KP x) [.int .i64 (x.count - 1),x.value.kind,.slice Ei ui vi,.slice Ep up vp,.slice En un vn,.slice Ec uc vc,.slice El ul vl,x.value.code,x.value.env,.slice Ez uq vq] Fx rfl (fH (F:=[bc]) (Dm ox (kP.2 fP)) (Mod.poke (F:=[bc]) dR _) (λy hy hm=>qo (by simp at hm;subst hm;exact hy))) Ix (λy hy=> .inl hy) (Blk.put_ hB hp (j:=0) dR gO _) md;exact⟨rfl,F',HF,xR.sub (λy hy=> .inl (ZK y hy)),md.mono (λy hy=>aP _ se)⟩
 ·have DO:allOK (relOK f) (iD f) (eG h i lf) x.parts:=by rcases zN with h1|h1;exact absurd h1 hpos;exact h1
  have OR:=aa DO;have HP:=aa hpos;have d1:decide (0<x.count - 1)=false:=by simpa using hpos
  clear zN DO;go_enter func103,ntmps103;go_wp2_with fail;have Vi:Mod [bc] w (((((((((((w.setCell ⟨bc,i*10,none⟩ (.int .i64 (x.count - 1))).setCell ⟨bc,i*10,none⟩ (.int .i64 0)).setCell ⟨bc,i*10+1,none⟩ (.int .i64 0)).setCell ⟨bc,i*10+2,none⟩ (.slice none 0 0)).setCell ⟨bc,i*10+3,none⟩ (.slice none 0 0)).setCell ⟨bc,i*10+4,none⟩ (.slice none 0 0)).setCell ⟨bc,i*10+5,none⟩ (.slice none 0 0)).setCell ⟨bc,i*10+6,none⟩ (.slice none 0 0)).setCell ⟨bc,i*10+7,none⟩ (.int .i64 0)).setCell ⟨bc,i*10+8,none⟩ (.int .i64 0)).setCell ⟨bc,i*10+9,none⟩ (.slice none 0 0)):=iV (Mod.poke (F:=[bc]) dR _) (Q3 dR) (λ_ h=>h);have md:Mod (bc::Fx) w (((((((((((w.setCell ⟨bc,i*10,none⟩ (.int .i64 (x.count - 1))).setCell ⟨bc,i*10,none⟩ (.int .i64 0)).setCell ⟨bc,i*10+1,none⟩ (.int .i64 0)).setCell ⟨bc,i*10+2,none⟩ (.slice none 0 0)).setCell ⟨bc,i*10+3,none⟩ (.slice none 0 0)).setCell ⟨bc,i*10+4,none⟩ (.slice none 0 0)).setCell ⟨bc,i*10+5,none⟩ (.slice none 0 0)).setCell ⟨bc,i*10+6,none⟩ (.slice none 0 0)).setCell ⟨bc,i*10+7,none⟩ (.int .i64 0)).setCell ⟨bc,i*10+8,none⟩ (.int .i64 0)).setCell ⟨bc,i*10+9,none⟩ (.slice none 0 0)):=Vi.mono dR;have hG6:∀y∈G6,y∈Fx:=λy hy=>by rw[hFx];simp [hy]
  have q6':=fH q6 Vi (λy hy hm=>qo (by simp at hm;subst hm;exact hG6 _ hy));obtain⟨F2,H2,TA⟩:=Lb _ lf [.int .i64 0,.int .i64 0,(),(),(),(),(),.int .i64 0,.int .i64 0,()] [] rfl (JY _) List.nodup_nil (λy hy=>by simp at hy) (Blk.put10 (Blk.put_ hB hp (j:=0) (o:=i*10) dR gO _) hp) md;have Bw:∀y∈G6,y ∉ g::F2:=λy hy hm=>GW;have aht:∀y∈G6,y<w.heap.size:=gC q6;obtain⟨W,hW⟩:∃W,W=(((((((((((w.setCell ⟨bc,i*10,none⟩ (.int .i64 (x.count - 1))).setCell ⟨bc,i*10,none⟩ (.int .i64 0)).setCell ⟨bc,i*10+1,none⟩ (.int .i64 0)).setCell ⟨bc,i*10+2,none⟩ (.slice none 0 0)).setCell ⟨bc,i*10+3,none⟩ (.slice none 0 0)).setCell ⟨bc,i*10+4,none⟩ (.slice none 0 0)).setCell ⟨bc,i*10+5,none⟩ (.slice none 0 0)).setCell ⟨bc,i*10+6,none⟩ (.slice none 0 0)).setCell ⟨bc,i*10+7,none⟩ (.int .i64 0)).setCell ⟨bc,i*10+8,none⟩ (.int .i64 0)).setCell ⟨bc,i*10+9,none⟩ (.slice none 0 0)):=⟨_,rfl⟩;have zW:W.heap.size=w.heap.size:=by rw[hW];simp only[dX,dW]
  rw[<-hW]at md q6' H2 ⊢;clear hW Vi g0 g1 g2 g3 e0 e1 e2 e3 e4 e5 e6 e7 e8 e9 f0 f1 f2 f3 f4 f5 f6 f7 f8 f9 kB hB;go_loopw [44] (λv wr=>∃(j:Nat) (F':List Nat),j<=uq/\v= .int .i64 j/\HB wr g ((x.parts.take j).foldl (iD f) (eG h i lf)) F'/\Sub W.heap.size F2 F'/\Mod (g::F2) W wr) (λv _=>uq - (intOf v).toNat)
  case atStart=>exact⟨0,F2,by omega,rfl,H2,Sub.refl,Mod.refl⟩
  case round=>
   obtain⟨j,F',hj,rfl,Hj,sj,mj⟩:=hrel;by_cases hlj:j<uq
   ·obtain⟨A',n',c',he,-,-,hr,-⟩:=(qy _ _ _ _).1 (eW _ _ _ _ (fH q6' mj Bw));injection he with he;injection he with f1 f2 f3;subst f1 f2 f3
    obtain⟨b,off,y,rfl,gD,hy,xO⟩:=hr.atI hlj;have HY:=aa hy;clear hy hr;go_wp2_with fail;refine(xo.out _ y g F' wr Hj (qR OR.out HY.out)).mono ?_;rintro e w3 ⟨rfl,F3,H3,s3,m3⟩;go_wp2_with fail;go_roundw
    case rel=>exact⟨j+1,F3,by omega,by go_num,by rw[rT HY.out];exact H3,sj.trans s3 mj.size,nO mj m3 (kj sj) (af _)⟩
    case measure=>simp [intOf];omega
   ·obtain rfl:j=uq:=dP;go_wp2_with fail;refine bodyPost_end (v:= .tuple #[]) (by simp [results,results103,go_sem]) rfl ?_;rw[aC (by rw[HLQ.out.1];exact af _)]at Hj;rw[HRD.out,aH (by have:=HP.out;omega)];have s2:Sub w.heap.size F F2:=TA.sub (λy hy=>by simp at hy);exact⟨rfl,F',Hj,s2.trans sj dP,nO (md.mono (λy hy=>aP _ se)) mj (kj s2) dP⟩
theorem YN (h:a=c) (h':b=d):Ending.returned (.tuple #[a,b])= .returned (.tuple #[c,d]):=by rw[h,h']
theorem PD {k:Int} (hi:l[i]?=some k) (hk:¬(0<=k/\k<h.cells.length)):l.all (inR h)=false:=nN hi (by simpa [inR]using hk)
def CtR (h:Hp) (n:Nat) (w:World) (e:Ending) (w':World):Prop:=
 ((refs h).all (inR h)=false/\e= .returned (.tuple #[(),.bool false])/\Below w.heap.size w w')\/
 ((refs h).all (inR h)=true/\∃g c,e= .returned (.tuple #[.slice (some ⟨g,0,none⟩) n c,.bool true])/\Own mR 1 3 w' w.heap.size (some ⟨g,0,none⟩) n c (lM n (refs h))/\Below w.heap.size w w')
theorem Cv {n:Nat} (hi:i<n):∃v:Int,(lM n l)[i]?=some v/\0<=v/\v<=l.length:=⟨_,pM l hi,by omega,by have:=List.count_le_length (a:=(i:Int)) (l:=l);omega⟩
theorem Kc (hx:h.cells[p]?=some x):(h.slots++(h.cells.take p).flatMap (·.parts)).length+x.parts.length<=(refs h).length:=by
 have e:h.cells=h.cells.take p++x::h.cells.drop (p+1):=by obtain⟨hp,rfl⟩:=ay.1 hx;rw[List.getElem_cons_drop hp,cA]
 unfold refs
 conv=>rhs;rw[e]
 simp only[aY,cj,cB];omega
theorem YM (hx:h.cells[p]?=some x) (hn:x.parts.all (inR h)=false):(refs h).all (inR h)=false:=by rw[List.all_eq_false]at hn ⊢;obtain⟨k,hk,hb⟩:=hn;exact⟨k,by unfold refs;exact bD _ (dM.2 ⟨x,aA hx,hk⟩),hb⟩
theorem Lz (h:Hp):(refs h).length<=szD h.toD:=by
 have h1:=nM h;have h2:∀l:List Cel,(l.flatMap (·.parts)).length<=gv (l.map Cel.toD):=λl=>by
  induction l with
  |nil=>simp
  |cons c t ih=>
   have:=wF c;rw[cB,aY,br,gv];simp only[szD,au]at this;omega
 have h3:=h2 h.cells;unfold refs;rw[aY];simp only[szD,au]at h1;omega
theorem Ej (n:Nat):(madeCells #[.int .i64 0] n).toList=(List.replicate n (0:Int)).flatMap mR:=by
 rw[dr]
 induction n with
 |zero=>rfl
 |succ n ih=>rw[dE,dE,cB,<-ih];rfl
theorem Dl (h:Hp) (hz:szD h.toD<=4194304) (K9:h.cells.length<=4194304) (TB:(refs h).length<=4194304) (cs:List Value) (w:World) (hr:rep w w.heap.size h.toD cs):Calls prog 59 #[av cs] w (CtR h h.cells.length w):=by
 obtain⟨A,n,c,Am,nm,cm,As,ns,ca,rfl,rc,rn,rs,wc⟩:=iP hr;have hl:=(ef rc).1;rw[au]at hl;obtain⟨Wl,WG,ca',he,_,hsm,hs,_⟩:=(qy _ _ _ _).1 rs;injection he with he;injection he with f1 f2 f3;subst f1 f2 f3
 have hn:n<=4194304:=dP;have q0:=(Below.refl w.heap.size w).alloc (af _) (.cells #[.slice A n c,.slice Am nm cm,.slice As ns ca,h.copies] 28);obtain⟨i0,DI,rJ,tW,hz2⟩:=cZ CB;have xx:=λW=>iw (P:=prog) 26 3 i0 _ underlying26 DI rJ .i64 .i64 n n (af _) jj dP W;rw[tW,cu]at xx;have kh:Blk ((w.alloc (.cells #[.slice A n c,.slice Am nm cm,.slice As ns ca,h.copies] 28)).alloc (.cells (madeCells #[.int .i64 0] n) 3)) w.heap.size 28 [.slice A n c,.slice Am nm cm,.slice As ns ca,h.copies]:=(Blk.new' (l:=[.slice A n c,.slice Am nm cm,.slice As ns ca,.int .i64 h.copies])).al;have q1:=q0.alloc eA (.cells (madeCells #[.int .i64 0] n) 3);have o0:Own mR 1 3 ((w.alloc (.cells #[.slice A n c,.slice Am nm cm,.slice As ns ca,h.copies] 28)).alloc (.cells (madeCells #[.int .i64 0] n) 3)) (w.heap.size+1) (some ⟨w.heap.size+1,0,none⟩) n n (lM n []):=
  Own.new_ iu _ _ _ (by rw[MB];exact Ej n) (uX n []) eb eA (by simp only[dT])
 have HL:=aa hl;have ahS:=TB;rw[refs,aY]at ahS;have hss:h.slots.length=ns:=hs.len;have HSS:=aa hss;have hns:ns<=4194304:=dP;clear hl hss;go_enter func59,ntmps59;go_wp2_with fail;clear xx;go_loopw [18] (λv wr=>∃m:Nat,m<=ns/\v= .int .i64 m/\Own mR 1 3 wr (w.heap.size+1) (some ⟨w.heap.size+1,0,none⟩) n n (lM n (h.slots.take m))/\(h.slots.take m).all (inR h)=true/\Blk wr w.heap.size 28 [.slice A n c,.slice Am nm cm,.slice As ns ca,h.copies]/\Below w.heap.size w wr) (λv _=>ns - (intOf v).toNat)
 case atStart=>exact⟨0,by omega,rfl,o0,by simp,kh,q1⟩
 case round=>
  clear kh o0 q1;obtain⟨m,hm,rfl,o0,jb,kh,bb⟩:=hrel;obtain⟨g0,g1,g2,g3⟩:=kh.c4;have Kw:=aa jb;clear jb;by_cases hlt:m<ns
  ·obtain⟨b,off,k,rfl,gD,hk,xO⟩:=(hs.below bb).atI hlt;have im:(m:Int)<(ns:Int):=dP;by_cases hin:0<=k/\k<(n:Int)
   ·obtain⟨i,rfl⟩:∃i:Nat,k=i:=⟨k.toNat,by omega⟩;have hi:i<n:=dP;obtain⟨v,hv,hv0,Nk⟩:=Cv (l:=h.slots.take m) hi;have hvb:v<=4194304:=by have:=dO m h.slots;omega
    obtain⟨_,_,v',e1,_,xg,AA⟩:=(o0.reads iu).atI hi;injection e1 with e1;injection e1 with e1 e2;subst e1 e2
    rw[hv]at xg;injection xg with xg;subst xg
    rw[bI]at AA;have zf:=(o0.fil).1.frozen i;have HV:=aa hv;have HK:=aa hk;have i1:(i:Int)<(n:Int):=dP;have i0:(0:Int)<=(i:Int):=dP;have jC:¬(n:Int)<=(i:Int):=dP;clear hin hv hk;go_wp2_with fail;go_roundw
    case rel=>
     have o1:=Own.set_ iu o0 i 0 v (v+1) (.int .i64 (v+1)) HV.out dP rfl;rw[cu,cF]at o1;have hvc:v=((List.count (i:Int) (h.slots.take m):Nat):Int):=by have:=pM (h.slots.take m) hi;rw[HV.out]at this;injection this
     refine⟨m+1,by omega,by go_num,?_,?_,?_,?_⟩
     ·rw[eJ HK.out,<-wJ _ hi,<-hvc];exact o1
     ·exact iY HK.out Kw.out wh
     ·exact kh.pk ig
     ·exact ie bb ig
    case measure=>simp [intOf];omega
   ·have DL:=PD (h:=h) hk (by rw[HL.out];exact hin);have HN:Hid ((refs h).all (inR h)=false):=aa (by rw[refs,List.all_append,DL];rfl);by_cases h0:k<0
    ·clear hin DL hk;go_wp2_with fail;go_ret2;exact .inl ⟨HN.out,rfl,bb⟩
    ·have h1:(n:Int)<=k:=dP;clear hin DL hk;go_wp2_with fail;go_ret2;exact .inl ⟨HN.out,rfl,bb⟩
  ·obtain rfl:m=ns:=dP;have ha:=Kw.out;rw[aC (by rw[HSS.out];omega)]at o0 ha;have HA:=aa ha;clear ha Kw;go_wp2_with fail;go_loopw [41] (λv wr=>∃p:Nat,p<=n/\v= .int .i64 p/\Own mR 1 3 wr (w.heap.size+1) (some ⟨w.heap.size+1,0,none⟩) n n (lM n (h.slots++(h.cells.take p).flatMap (·.parts)))/\(h.slots++(h.cells.take p).flatMap (·.parts)).all (inR h)=true/\Blk wr w.heap.size 28 [.slice A n c,.slice Am nm cm,.slice As m ca,h.copies]/\Below w.heap.size w wr) (λv _=>n - (intOf v).toNat)
   case atStart=>exact⟨0,by omega,rfl,by simpa using o0,by simpa using HA.out,kh,bb⟩
   case round=>
    clear kh o0 bb g0 g1 g2 g3;obtain⟨p,hp,rfl,o0,jb,kh,bb⟩:=hrel;obtain⟨g0,g1,g2,g3⟩:=kh.c4;have Kw:=aa jb;clear jb;by_cases hlp:p<n
    ·obtain⟨b,off,x,Ai,ni,ci,Ap,np,cp,An,nn,cn,Ac,nc,cc,Al,nl,cl,Aq,nq,cq,rfl,gD,hx,fE,e0,e1,e2,e3,e4,e5,e6,e7,e8,e9⟩:=lm (fF rc bb) hlp;obtain⟨_,_,_,_,_,_,_,_,_,_,_,_,_,_,_,_,_,_,lK,_,_,rq⟩:=i8 fE;simp only[bF,bG,dy,cO]at lK;obtain⟨⟨rfl,rfl,rfl⟩,⟨rfl,rfl,rfl⟩,⟨rfl,rfl,rfl⟩,⟨rfl,rfl,rfl⟩,⟨rfl,rfl,rfl⟩,rfl,rfl,rfl⟩:=lK;obtain⟨WQ,Yp,Xi,he,_,hqm,hq,_⟩:=(qy _ _ _ _).1 rq;injection he with he;injection he with f1 f2 f3;subst f1 f2 f3
     have mD:x.parts.length=nq:=hq.len;have xe:(h.slots++(h.cells.take p).flatMap (·.parts)).length+nq<=4194304:=by have:=Kc (h:=h) hx;omega
     have RQ0:Reads mR 1 w w.heap.size Aq nq x.parts:=hq.keep (λp hp=>(bb.cell hp).symm);have RQ:=aa RQ0;clear RQ0;have HX:=aa hx;have Mn:=aa mD;have TN:=aa xe;have hnq:nq<=4194304:=dP;have z0:=bb.size;have yb:b<wr.heap.size:=dP;have yh:=kh.lt;have ip:(p:Int)<(n:Int):=dP;have OG:=kh.al (o:= .cells #[x.count,x.value.kind,.slice Ai ni ci,.slice Ap np cp,.slice An nn cn,.slice Ac nc cc,.slice Al nl cl,x.value.code,x.value.env,.slice Aq nq cq] 43);have zi:=gT (o:= .cells #[x.count,x.value.kind,.slice Ai ni ci,.slice Ap np cp,.slice An nn cn,.slice Ac nc cc,.slice Al nl cl,x.value.code,x.value.env,.slice Aq nq cq] 43) bb z0;have o2:=o0.al (o:= .cells #[x.count,x.value.kind,.slice Ai ni ci,.slice Ap np cp,.slice An nn cn,.slice Ac nc cc,.slice Al nl cl,x.value.code,x.value.env,.slice Aq nq cq] 43);clear hx mD xe rq;go_wp2_with fail;clear e0 e1 e2 e3 e4 e5 e6 e7 e8 e9 g0 g1 g2 g3;obtain⟨wo,hwo⟩:∃wo:World,wo=wr:=⟨_,rfl⟩;subst hwo;go_loopw [48] (λv wr=>∃q:Nat,q<=nq/\v= .int .i64 q/\Own mR 1 3 wr (w.heap.size+1) (some ⟨w.heap.size+1,0,none⟩) n n (lM n ((h.slots++(h.cells.take p).flatMap (·.parts))++x.parts.take q))/\(x.parts.take q).all (inR h)=true/\Blk wr w.heap.size 28 [.slice (some ⟨b,off,none⟩) n c,.slice Am nm cm,.slice As m ca,h.copies]/\Below w.heap.size w wr) (λv _=>nq - (intOf v).toNat)
     case atStart=>exact⟨0,by omega,rfl,by simpa using o2,by simp,OG,zi⟩
     case round=>
      clear OG o2 zi;obtain⟨q,hqq,rfl,o2,jb,OG,zi⟩:=hrel;obtain⟨g0,g1,g2,g3⟩:=OG.c4;have HAQ:=aa jb;clear jb;by_cases hlq:q<nq
      ·obtain⟨b3,o3,k,rfl,lE,hk,xO⟩:=(RQ.out.below zi).atI hlq;have iq:(q:Int)<(nq:Int):=dP;by_cases hin:0<=k/\k<(n:Int)
       ·obtain⟨i,rfl⟩:∃i:Nat,k=i:=⟨k.toNat,by omega⟩;have hi:i<n:=dP;obtain⟨v,hv,hv0,Nk⟩:=Cv (l:=(h.slots++(h.cells.take p).flatMap (·.parts))++x.parts.take q) hi;have hvb:v<=4194304:=by have:=TN.out;have:=dO q x.parts;rw[aY,de,Mn.out]at Nk;omega
        obtain⟨_,_,v',e1,_,xg,AA⟩:=(o2.reads iu).atI hi;injection e1 with e1;injection e1 with e1 e2;subst e1 e2
        rw[hv]at xg;injection xg with xg;subst xg
        rw[bI]at AA;have zf:=(o2.fil).1.frozen i;have HV:=aa hv;have HK:=aa hk;have i1:(i:Int)<(n:Int):=dP;have i0:(0:Int)<=(i:Int):=dP;have jC:¬(n:Int)<=(i:Int):=dP;clear hin hv hk Nk;go_wp2_with fail;go_roundw
        case rel=>
         have o3:=Own.set_ iu o2 i 0 v (v+1) (.int .i64 (v+1)) HV.out dP rfl;rw[cu,cF]at o3;have hvc:v=((List.count (i:Int) ((h.slots++(h.cells.take p).flatMap (·.parts))++x.parts.take q):Nat):Int):=by have:=pM ((h.slots++(h.cells.take p).flatMap (·.parts))++x.parts.take q) hi;rw[HV.out]at this;injection this
         refine⟨q+1,by omega,by go_num,?_,?_,?_,?_⟩
         ·rw[eJ HK.out,<-aS,<-wJ _ hi,<-hvc];exact o3
         ·exact iY HK.out HAQ.out wh
         ·exact OG.pk ig
         ·exact ie zi ig
        case measure=>simp [intOf];omega
       ·have DL:=PD (h:=h) hk (by rw[HL.out];exact hin);have HN:Hid ((refs h).all (inR h)=false):=aa (YM HX.out DL);by_cases h0:k<0
        ·clear hin DL hk;go_wp2_with fail;go_ret2;exact .inl ⟨HN.out,rfl,zi⟩
        ·have h1:(n:Int)<=k:=dP;clear hin DL hk;go_wp2_with fail;go_ret2;exact .inl ⟨HN.out,rfl,zi⟩
      ·obtain rfl:q=nq:=dP;have e1:h.slots++(h.cells.take (p+1)).flatMap (·.parts)=(h.slots++(h.cells.take p).flatMap (·.parts))++x.parts.take q:=Hg;have E1:=aa e1;clear e1;go_wp2_with fail;go_roundw
       case rel=>exact⟨p+1,by omega,by go_num,by rw[E1.out];exact o2,by rw[E1.out,List.all_append,Kw.out,HAQ.out];rfl,OG,zi⟩
       case measure=>simp [intOf];omega
    ·obtain rfl:p=n:=dP;rw[aC ji]at o0;have ha:=Kw.out;rw[aC ji]at ha;have HA2:=aa ha;clear ha;go_wp2_with fail;go_ret2;refine .inr ⟨HA2.out,w.heap.size+1,p,?_,?_,bb⟩
     ·exact YN (by rw[HL.out];rfl) rfl
     ·rw[HL.out];exact o0.mono dP
open Go.ChangeShapes Go.WideShapes Go.Deep Go.RowKit
theorem aeN:ownKnob prog.godebug=none:=dU
theorem Q1:laidOutB prog=true:=dU
section
variable {H:Type} {enc:TypeId × Value->H} {P:Program} {w:World} {base:Nat} {V0:Nat->Bool} {abd:Bool}
theorem O1 {w:World} {a:Addr} {u:Value} (h:w.cell? (a.add 0)=some u):∃b off,a=⟨b,off,none⟩/\b<w.heap.size:=by
 have h0:w.cell? a=some u:=by simpa [Addr.add]using h
 obtain⟨b,off,spot⟩:=a;have:=World.cell?_spot h0;simp at this;subst this;exact⟨b,off,rfl,World.block_lt_of_cell? w _ h0⟩
theorem Ja (b off n:Nat):(⟨b,off,none⟩:Addr).add n=⟨b,off+n,none⟩:=by unfold Addr.add;by_cases h:n=0<;>simp [h]
end
end Go.Proofs.YtekcpadlmfaihaaGreat
