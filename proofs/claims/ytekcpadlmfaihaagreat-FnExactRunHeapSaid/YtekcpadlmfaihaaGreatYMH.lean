/- A slice with an element taken out; a box that holds a heap: in the one assertion for memory. -/
import Derived.Test.YtekcpadlmfaihaaGreatYZ
import Derived.Test.YtekcpadlmfaihaaGreatYW
import Derived.Test.YtekcpadlmfaihaaGreatYO
import Derived.Test.YtekcpadlmfaihaaGreatYG
import Derived.Test.YtekcpadlmfaihaaGreatYM
import Derived.Test.YtekcpadlmfaihaaGreatYK
import Derived.Test.YtekcpadlmfaihaaGreatYA
import Derived.ProofKit
import Derived.OpenShut
import Derived.ShutString
import Derived.ChangeOld
import Derived.Deep.Slices
import Derived.Deep.Fields
import Derived.ChangeSame
import Derived.Test.YtekcpadlmfaihaaGreatYP
namespace Go.Proofs.YtekcpadlmfaihaaGreat
open Go.RowKit Proofs.Tryz
set_option maxHeartbeats 8000000
set_option maxRecDepth 100000
set_option linter.unusedSimpArgs false
set_option linter.unusedVariables false
variable {args:Array Value} {c x:Cel} {Ψ:Ending->World->Prop} {h h':Hp} {k:Int} {R:List As} {l:List Cel} {its:List Item} {F X:List Nat} {cls ns:List Str} {ps:List Vec} {B d f g i n:Nat} {P:Program} {s:Str} {v:Vec} {w w0:World}
section
variable {P:Program} {w0 w:World} {X:List Nat} {R:List As} {t e:TypeId}
theorem zX:∀{a b:List D} {F:List Nat} {css:List (List Value)},iv P w (a++b) e F css↔∃F1 F2 c1 c2,F=F1++F2/\css=c1++c2/\iv P w a e F1 c1/\iv P w b e F2 c2
 |[],b,F,css=>by
  constructor
  ·intro h;exact⟨[],F,[],css,rfl,rfl,by rw[iv];exact⟨rfl,rfl⟩,h⟩
  ·rintro⟨F1,F2,c1,c2,rfl,rfl,h1,h2⟩;rw[iv]at h1;obtain⟨rfl,rfl⟩:=h1;exact h2
 |x::t,b,F,css=>by
  rw[cK,iv];constructor
  ·rintro⟨F1,F2,c1,c2,rfl,rfl,h1,h2⟩;obtain⟨G1,G2,d1,d2,rfl,rfl,h3,h4⟩:=zX.1 h2;exact⟨F1++G1,G2,c1::d1,d2,by simp,rfl,by rw[iv];exact⟨F1,G1,c1,d1,rfl,rfl,h1,h3⟩,h4⟩
  ·rintro⟨F1,F2,c1,c2,rfl,rfl,h1,h2⟩;rw[iv]at h1;obtain⟨G1,G2,d1,d2,rfl,rfl,h3,h4⟩:=h1;exact⟨G1,G2++F2,d1,d2++c2,by simp,rfl,h3,zX.2 ⟨G2,F2,d2,c2,rfl,rfl,h4,h2⟩⟩
theorem Mem.hole {g n c k s:Nat} {xs:List D} {d:D} (M:Mem P w0 X w (.ow (.sl xs) t [.slice (some ⟨g,0,none⟩) n c]::R)) (ht:P.underlying t=some (.slice e)) (hs:P.cellsOf e=s) (hk:xs[k]?=some d):
 ∃cs pre post ca cb,pre.length=k*s/\cs.length=s/\n=xs.length/\Mem P w0 X w (.bk g e (pre++(cs++post)):: .ow d e cs:: .oa (xs.take k) e ca:: .oa (xs.drop (k+1)) e cb::R)/\
  ∀(Y4 w':World) (X':List Nat) (R':List As) (d':D) (cs':List Value),cs'.length=s->Mem P Y4 X' w' (.bk g e (pre++(cs'++post)):: .ow d' e cs':: .oa (xs.take k) e ca:: .oa (xs.drop (k+1)) e cb::R')->
   Mem P Y4 X' w' (.ow (.sl (xs.set k d')) t [.slice (some ⟨g,0,none⟩) n c]::R'):=by
 have Ch:k<xs.length:=(ay.1 hk).1;have ex:∀d',xs.set k d'=xs.take k++(d'::xs.drop (k+1)):=λd'=>(List.set_eq_take_append_cons_drop ..).trans (by rw[aN Ch]);have ex0:xs=xs.take k++(d::xs.drop (k+1)):=by
  have h1:xs[k]=d:=by have:=aw Ch;rw[hk]at this;injection this with this;exact this.symm
  rw[<-h1,<-cR Ch,cA]
 obtain⟨F,hS,hF,h3⟩:=Mem.split [_] M;have h:=iQ.1 hS;change own P w (.sl xs) t F _ at h;rw[own]at h;obtain⟨e',A',n',c',s',fB,F2,h1,h2,h3',hm,h4,rfl,h6⟩:=h;obtain rfl:e=e':=by rw[ht]at h1;injection h1 with h1;injection h1
 obtain rfl:s=s':=hs.symm.trans h2;injection h3' with h3';injection h3' with e1 e2 e3;subst e1 e2 e3
 have gK:=zY h6;rw[au]at gK;have hn:=h4.1;rcases h4.2.2 with ⟨h0,h00⟩|⟨g',cap,pq,h0,hg,hh,hc,hmm,hz,hr⟩
 ·cases h0
 injection h0 with h0 _ h01;injection h0 with h0;injection h0 with h0;subst h0 h01;have WA:k<fB.length:=dP;have er:∀r',fB.set k r'=fB.take k++(r'::fB.drop (k+1)):=λr'=>(List.set_eq_take_append_cons_drop ..).trans (by rw[aN WA]);have er0:fB=fB.take k++(fB[k]::fB.drop (k+1)):=by rw[<-cR WA,cA]
 have h6':=h6;rw[ex0,er0,aI,br]at h6';obtain⟨Fa,Fz,ca,cz,rfl,ec,ha,hz6⟩:=zX.1 h6';rw[iv]at hz6;obtain⟨Fd,Fb,cd,cb,rfl,rfl,hd,hb⟩:=hz6;have hla:=zY ha;have hlk:(xs.take k).length=k:=sc;have hlr:((fB.take k).map Row.v).length=k:=by rw[au,de];omega
 obtain⟨rfl,ec2⟩:=List.append_inj ec dP;injection ec2 with ec2 ec3;subst ec2 ec3;have lp:((fB.take k).flatMap Row.v).length=k*s:=by rw[gN Row.len,de];congr 1;omega
 have adl:pq.toList=(fB.take k).flatMap Row.v++(fB[k].v++((fB.drop (k+1)).flatMap Row.v++pq.toList.drop (n*s))):=by
  have h9:=cA (n*s) pq.toList;have h10:fB.flatMap Row.v=(fB.take k).flatMap Row.v++(fB[k].v++(fB.drop (k+1)).flatMap Row.v):=by
   conv=>lhs;rw[er0]
   rw[cj,cB]
  rw[hr,h10]at h9;refine h9.symm.trans ?_;simp only[aS]
 refine⟨fB[k].v,(fB.take k).flatMap Row.v,(fB.drop (k+1)).flatMap Row.v++pq.toList.drop (n*s),(fB.take k).map Row.v,(fB.drop (k+1)).map Row.v,lp,Row.len _,by omega,?_,?_⟩
 ·have hB:Blk w g e ((fB.take k).flatMap Row.v++(fB[k].v++((fB.drop (k+1)).flatMap Row.v++pq.toList.drop (n*s)))):=by unfold Blk;rw[<-adl];exact hh
  have ZD:(g::(Fd++(Fa++(Fb++[])))).Perm (oz (some ⟨g,0,none⟩)++(Fa++(Fd++Fb))):=by simp only[oz,bP,List.singleton_append];refine List.Perm.cons _ ?_;rw[<-aS,<-aS];exact List.perm_append_comm.append_right _
  refine h3 w [_,_,_,_] (g::(Fd++(Fa++(Fb++[])))) (fJ.2 ⟨[g],_,rfl,⟨rfl,hB⟩,fJ.2 ⟨Fd,_,rfl,hd,fJ.2 ⟨Fa,_,rfl,ha,fJ.2 ⟨Fb,_,rfl,hb,rfl⟩⟩⟩⟩) ?_ (λx hx=> .inl (ZD.mem_iff.1 hx)) Mod.refl;exact ZD.nodup_iff.2 hF
 ·intro Y4 w' X' R' d' cs' JC M';have M2:=M'.perm (M:=_::_::_::_::R') ((List.Perm.swap _ _ _).cons _);refine Mem.as (C:=[_,_,_,_]) (C':=[_]) M2 λG hG _=>?_;obtain⟨G1,_,rfl,⟨rfl,hB⟩,G2,_,rfl,q2,G3,_,rfl,q3,G4,_,rfl,q4,rfl⟩:=hG;refine iQ.2 ?_;show own P w' (.sl (xs.set k d')) t _ _;rw[own];have e5:(fB.set k ⟨cs',JC⟩).map Row.v=(fB.take k).map Row.v++(cs'::(fB.drop (k+1)).map Row.v):=by rw[er,aI,br]
  have e6:(fB.set k ⟨cs',JC⟩).flatMap Row.v=(fB.take k).flatMap Row.v++(cs'++(fB.drop (k+1)).flatMap Row.v):=by rw[er,cj,cB]
  refine⟨e,_,n,c,s,fB.set k ⟨cs',JC⟩,G2++(G3++G4),ht,hs,rfl,hm,⟨by rw[da];exact hn,by rw[gN Row.len,da,hn],.inr ⟨g,c,((fB.take k).flatMap Row.v++(cs'++((fB.drop (k+1)).flatMap Row.v++pq.toList.drop (n*s)))).toArray,rfl,dj _,hB,hc,hmm,?_,?_⟩⟩,by simp [oz],?_⟩
  ·have h7:pq.toList.length=c*s:=by rw[Array.length_toList];exact hz
   rw[adl]at h7;have:fB[k].v.length=s:=Row.len _;simp only[List.size_toArray,aY]at h7 ⊢;omega
  ·exact GO
  ·rw[e5,ex];exact zX.2 ⟨G2,G3++G4,_,_,rfl,rfl,q2,by rw[iv];exact⟨G3,G4,cs',_,rfl,rfl,q3,q4⟩⟩
end
section
variable {P:Program} {w0 w:World} {X:List Nat} {R:List As} {t:TypeId} {g:Nat} {d:D} {cs:List Value}
theorem Mem.bxOpen (M:Mem P w0 X w (.bx g d t::R)):∃cs,Mem P w0 X w (.bk g t cs:: .ow d t cs::R):=by obtain⟨hm,FF,s1,s2,s3⟩:=M;obtain⟨G,Fr,rfl,⟨cs,F',rfl,hB,ho⟩,hr⟩:=s1;exact⟨cs,hm,_,⟨[g],_,rfl,⟨rfl,hB⟩,F',Fr,rfl,ho,hr⟩,s2,s3⟩
theorem Mem.bxShut (M:Mem P w0 X w (.bk g t cs:: .ow d t cs::R)):Mem P w0 X w (.bx g d t::R):=by obtain⟨hm,FF,s1,s2,s3⟩:=M;obtain⟨_,_,rfl,⟨rfl,hB⟩,F',Fr,rfl,ho,hr⟩:=s1;exact⟨hm,_,⟨g::F',Fr,rfl,⟨cs,F',rfl,hB,ho⟩,hr⟩,s2,s3⟩
theorem Blk.seg {m j:Nat} {pre post:List Value} {v:Value} (q:Blk w g t (pre++(cs++post))) (hp:pre.length=m) (hj:cs[j]?=some v):w.cell? ⟨g,m+j,none⟩=some v:=by refine(q.cell (m+j)).trans ?_;subst hp;rw[cV dP,Nat.add_sub_cancel_left,cY (ay.1 hj).1,hj]
theorem Mem.putSeg {m j:Nat} {pre post:List Value} {u:Value} (M:Mem P w0 X w (.bk g t (pre++(cs++post))::R)) (hp:pre.length=m) (hj:j<cs.length):Mem P w0 X (w.setCell ⟨g,m+j,none⟩ u) (.bk g t (pre++(cs.set j u++post))::R):=by
 have M2:=M.put (m+j) u;subst hp
 rwa [dI _ _ dP,Nat.add_sub_cancel_left,List.set_append_left _ _ hj]at M2
end
section
variable {w0 w:World} {X:List Nat} {R:List As}
theorem Mem.heapCall {f:Nat} {args:Array Value} {Ψ:Ending->World->Prop} {v:Value} {h h':Hp} {g:Nat} (M:Mem prog w0 X w (.bx g h.toD 28::R))
 (hc:∀F,HB w g h F->(∀y∈g::F,y∈X\/w0.heap.size<=y)->Calls prog f args w λe w'=>e= .returned v/\∃F',HB w' g h' F'/\Sub w.heap.size F F'/\Mod (g::F) w w')
 (hK:∀w',Mem prog w0 X w' (.bx g h'.toD 28::R)->Ψ (.returned v) w'):Calls prog f args w Ψ:=by
 obtain⟨hm,FF,s1,s2,s3⟩:=M;obtain⟨G,Fr,rfl,⟨cs,F,rfl,kB,o⟩,hr⟩:=s1;have q:=aE.1 s2;refine(hc F ⟨cs,kB,o,q.1⟩ (λy hy=>s3 y (aG.2 (.inl hy)))).mono ?_;rintro e w' ⟨rfl,F',⟨cs',IG,o',nd'⟩,hS,hM⟩;refine hK w' ⟨hm.trans hM (λx hx=>s3 x (aG.2 (.inl hx))),(g::F')++Fr,⟨g::F',Fr,rfl,⟨cs',F',rfl,IG,o'⟩,th hr λx hx=>hM.2.2 x (wY hr x hx) λhc=>q.2.2 x hc x hx rfl⟩,?_,?_⟩
 ·exact aE.2 ⟨nd',q.2.1,λa ha b hb e=>by
   subst e;rcases kj hS a ha with h1|h1
   ·exact q.2.2 a h1 a hb rfl
   ·have:=wY hr a hb;omega⟩
 ·intro x hx;rcases aG.1 hx with hx|hx
  ·rcases kj hS x hx with h1|h1
   ·exact s3 x (aG.2 (.inl h1))
   ·right;have:=hm.size;omega
  ·exact s3 x (aG.2 (.inr hx))
theorem Mem.openHeap {h:Hp} {cs:List Value} (M:Mem prog w0 X w (.ow h.toD 28 cs::R)):∃(Ac:Option Addr) (cc:Nat) (An:Option Addr) (cn:Nat) (As:Option Addr) (ck:Nat),cs=[.slice Ac h.cells.length cc,.slice An h.names.length cn,.slice As h.slots.length ck,.int .i64 h.copies]/\(Lit.int .i64 h.copies).wf=true/\
 Mem prog w0 X w (.ow (.sl (h.cells.map Cel.toD)) 24 [.slice Ac h.cells.length cc]:: .ow (.sl (h.names.map .s)) 25 [.slice An h.names.length cn]:: .ow (.sl (h.slots.map (.i .i64))) 26 [.slice As h.slots.length ck]::R):=by
 obtain⟨F,h1,h2,h3⟩:=Mem.split [_] M;obtain⟨A1,n1,c1,A2,n2,c2,A3,n3,c3,F1,F2,F3,rfl,rfl,o1,o2,o3⟩:=tC (iQ.1 h1);obtain⟨_,_,_,_,_,_,_,_,_,_,_,_,_,wf⟩:=iP (eW _ _ _ _ (iQ.1 h1));have l1:=(ef (eW _ _ _ _ o1)).1;have l2:=(ef (eW _ _ _ _ o2)).1;have l3:=(ef (eW _ _ _ _ o3)).1;rw[au]at l1 l2 l3;subst l1 l2 l3;exact⟨A1,c1,A2,c2,A3,c3,rfl,wf,h3 w [_,_,_] _ ⟨F1,_,rfl,o1,F2,_,rfl,o2,F3,_,rfl,o3,rfl⟩ h2 (λg hg=> .inl hg) Mod.refl⟩
theorem Mem.openVecL {v:Vec} {Ai:Option Addr} {ni ci:Nat} {Ap:Option Addr} {np cp:Nat} {An:Option Addr} {nn cn:Nat} {Ac:Option Addr} {nc cc:Nat} {Al:Option Addr} {nl cl:Nat} {k co en:Value} (M:Mem prog w0 X w (.ow v.toD 38 [k,.slice Ai ni ci,.slice Ap np cp,.slice An nn cn,.slice Ac nc cc,.slice Al nl cl,co,en]::R)):
 Mem prog w0 X w (.ow (.sl (v.items.map Item.toD)) 35 [.slice Ai ni ci]:: .ow (.sl (v.parts.map Vec.toD)) 36 [.slice Ap np cp]:: .ow (.sl (v.names.map .s)) 25 [.slice An nn cn]:: .ow (.sl (v.cls.map .s)) 25 [.slice Ac nc cc]:: .ow (.sl (v.levels.map .s)) 25 [.slice Al nl cl]::R):=by
 obtain⟨_,_,_,_,_,_,_,_,_,_,_,_,_,_,_,he,M'⟩:=M.openVec;simp only[bF,bG,cO]at he;obtain⟨-,⟨rfl,rfl,rfl⟩,⟨rfl,rfl,rfl⟩,⟨rfl,rfl,rfl⟩,⟨rfl,rfl,rfl⟩,⟨rfl,rfl,rfl⟩,-⟩:=he;exact M'
theorem Mem.openCell {x:Cel} {cs:List Value} (M:Mem prog w0 X w (.ow x.toD 43 cs::R)):∃(cv:List Value) (Aq:Option Addr) (cq:Nat),cs= .int .i64 x.count::(cv++[.slice Aq x.parts.length cq])/\(Lit.int .i64 x.count).wf=true/\
 Mem prog w0 X w (.ow x.value.toD 38 cv:: .ow (.sl (x.parts.map (.i .i64))) 26 [.slice Aq x.parts.length cq]::R):=by
 obtain⟨F,h1,h2,h3⟩:=Mem.split [_] M;obtain⟨A1,n1,c1,A2,n2,c2,A3,n3,c3,A4,n4,c4,A5,n5,c5,Aq,nq,cq,F1,F2,F3,F4,F5,Fp,rfl,rfl,o1,o2,o3,o4,o5,op⟩:=jp (iQ.1 h1);obtain⟨_,_,_,_,_,_,_,_,_,_,_,_,_,_,_,_,_,_,-,wf,rv,-⟩:=i8 (eW _ _ _ _ (iQ.1 h1));obtain⟨_,_,_,_,_,_,_,_,_,_,-,wk,-,-,-,-,-,wc,we⟩:=d_ rv;have l1:=(ef (eW _ _ _ _ op)).1;rw[au]at l1;subst l1;exact⟨_,Aq,cq,rfl,wf,h3 w [_,_] _ ⟨_,_,rfl,jD wk o1 o2 o3 o4 o5 wc we,Fp,_,rfl,op,rfl⟩ h2 (λg hg=> .inl hg) Mod.refl⟩
theorem Mem.cellOut {g n c k:Nat} {l:List Cel} {x:Cel} (M:Mem prog w0 X w (.ow (.sl (l.map Cel.toD)) 24 [.slice (some ⟨g,0,none⟩) n c]::R)) (hk:l[k]?=some x):
 ∃(Ai:Option Addr) (ci:Nat) (Ap:Option Addr) (cp:Nat) (An:Option Addr) (cn:Nat) (Ac:Option Addr) (cc:Nat) (Al:Option Addr) (cl:Nat) (Aq:Option Addr) (cq:Nat) (pre post:List Value) (ca cb:List (List Value)),pre.length=k*10/\n=l.length/\(Lit.int .i64 x.count).wf=true/\(Lit.int .i64 x.value.kind).wf=true/\(Lit.int .i64 x.value.code).wf=true/\(Lit.int .i64 x.value.env).wf=true/\
  Mem prog w0 X w (.bk g 43 (pre++([.int .i64 x.count,.int .i64 x.value.kind,.slice Ai x.value.items.length ci,.slice Ap x.value.parts.length cp,.slice An x.value.names.length cn,.slice Ac x.value.cls.length cc,.slice Al x.value.levels.length cl,.int .i64 x.value.code,.int .i64 x.value.env,.slice Aq x.parts.length cq]++post)):: .ow (.sl (x.value.items.map Item.toD)) 35 [.slice Ai x.value.items.length ci]:: .ow (.sl (x.value.parts.map Vec.toD)) 36 [.slice Ap x.value.parts.length cp]:: .ow (.sl (x.value.names.map .s)) 25 [.slice An x.value.names.length cn]:: .ow (.sl (x.value.cls.map .s)) 25 [.slice Ac x.value.cls.length cc]:: .ow (.sl (x.value.levels.map .s)) 25 [.slice Al x.value.levels.length cl]:: .ow (.sl (x.parts.map (.i .i64))) 26 [.slice Aq x.parts.length cq]:: .oa ((l.map Cel.toD).take k) 43 ca:: .oa ((l.map Cel.toD).drop (k+1)) 43 cb::R)/\
  ∀(Y4 w':World) (X':List Nat) (R':List As) (y:Cel) (Ai:Option Addr) (ni ci:Nat) (Ap:Option Addr) (np cp:Nat) (An:Option Addr) (nn cn:Nat) (Ac:Option Addr) (nc cc:Nat) (Al:Option Addr) (nl cl:Nat) (Aq:Option Addr) (nq cq:Nat),(Lit.int .i64 y.count).wf=true->(Lit.int .i64 y.value.kind).wf=true->(Lit.int .i64 y.value.code).wf=true->(Lit.int .i64 y.value.env).wf=true->
   Mem prog Y4 X' w' (.bk g 43 (pre++([.int .i64 y.count,.int .i64 y.value.kind,.slice Ai ni ci,.slice Ap np cp,.slice An nn cn,.slice Ac nc cc,.slice Al nl cl,.int .i64 y.value.code,.int .i64 y.value.env,.slice Aq nq cq]++post)):: .ow (.sl (y.value.items.map Item.toD)) 35 [.slice Ai ni ci]:: .ow (.sl (y.value.parts.map Vec.toD)) 36 [.slice Ap np cp]:: .ow (.sl (y.value.names.map .s)) 25 [.slice An nn cn]:: .ow (.sl (y.value.cls.map .s)) 25 [.slice Ac nc cc]:: .ow (.sl (y.value.levels.map .s)) 25 [.slice Al nl cl]:: .ow (.sl (y.parts.map (.i .i64))) 26 [.slice Aq nq cq]:: .oa ((l.map Cel.toD).take k) 43 ca:: .oa ((l.map Cel.toD).drop (k+1)) 43 cb::R')->
   Mem prog Y4 X' w' (.ow (.sl ((l.set k y).map Cel.toD)) 24 [.slice (some ⟨g,0,none⟩) n c]::R'):=by
 obtain⟨cs,pre,post,ca,cb,h1,h2,h3,M1,h4⟩:=M.hole underlying24 (s:=10) dU (show (l.map Cel.toD)[k]?=some x.toD by rw[cg,hk];rfl);have M2:=M1.pull 1 rfl;obtain⟨cv,Aq,cq,rfl,wf1,M3⟩:=M2.openCell;obtain⟨Ai,ci,Ap,cp,An,cn,Ac,cc,Al,cl,rfl,wk,-,-,-,-,-,wc,we⟩:=d_ (M3.rp 0 rfl);have M4:=M3.openVecL;refine⟨Ai,ci,Ap,cp,An,cn,Ac,cc,Al,cl,Aq,cq,pre,post,ca,cb,h1,by rw[h3,au],wf1,wk,wc,we,M4.pull 6 rfl,?_⟩;intro Y4 w' X' R' y Ai ni ci Ap np cp An nn cn Ac nc cc Al nl cl Aq nq cq q1 q2 q3 q4 M';have e:(l.set k y).map Cel.toD=(l.map Cel.toD).set k y.toD:=by rw[dH]
 rw[e];refine h4 Y4 w' X' R' y.toD ([y.count,y.value.kind,.slice Ai ni ci,.slice Ap np cp,.slice An nn cn,.slice Ac nc cc,.slice Al nl cl,y.value.code,y.value.env,.slice Aq nq cq]) rfl ?_;have M5:Mem prog Y4 X' w' (.ow (.sl (y.value.items.map Item.toD)) 35 [.slice Ai ni ci]:: .ow (.sl (y.value.parts.map Vec.toD)) 36 [.slice Ap np cp]:: .ow (.sl (y.value.names.map .s)) 25 [.slice An nn cn]:: .ow (.sl (y.value.cls.map .s)) 25 [.slice Ac nc cc]:: .ow (.sl (y.value.levels.map .s)) 25 [.slice Al nl cl]:: .ow (.sl (y.parts.map (.i .i64))) 26 [.slice Aq nq cq]:: .bk g 43 (pre++([.int .i64 y.count,.int .i64 y.value.kind,.slice Ai ni ci,.slice Ap np cp,.slice An nn cn,.slice Ac nc cc,.slice Al nl cl,.int .i64 y.value.code,.int .i64 y.value.env,.slice Aq nq cq]++post)):: .oa ((l.map Cel.toD).take k) 43 ca:: .oa ((l.map Cel.toD).drop (k+1)) 43 cb::R'):=M'.perm (by refine List.Perm.trans (List.perm_middle (l₁:=[_,_,_,_,_,_])).symm ?_;exact List.Perm.refl _)
 have M6:=(M5.joinVec q2 q3 q4).joinCell (x:=y) q1;exact M6.pull 1 rfl
end
section
variable {P:Program} {ops:Array Oper} {Q:Exit->Act->World->Prop} {o:Oper} {rest:List Oper} {D0:List Deferred} {T T':Array Value} {w w' w0:World} {X:List Nat} {L L':List As} {g:Nat} {t e:TypeId} {cs cs':List Value}
def AD (w:World) (g m:Nat):Nat->List Value->Prop
 |_,[]=>True
 |k,v::t=>w.cell? ⟨g,m+k,none⟩=some v/\AD w g m (k+1) t
theorem Jk {w:World} {g m:Nat} {t:TypeId} {pre cs post:List Value} (h:Blk w g t (pre++(cs++post))) (hp:pre.length=m):∀(l:List Value) (k:Nat),(∀i,i<l.length->l[i]?=cs[k+i]?)->AD w g m k l
 |[],_,_=>bO
 |v::l,k,hl=>⟨h.seg hp (by rw[<-cF k,<-hl 0 dR];rfl),Jk h hp l (k+1) λi hi=>by have:=hl (i+1) dS;rw[ag]at this;rw[this];congr 1;omega⟩
theorem Blk.mid {w:World} {g m:Nat} {t:TypeId} {pre cs post:List Value} (h:Blk w g t (pre++(cs++post))) (hp:pre.length=m):AD w g m 0 cs:=Jk h hp cs 0 λi _=>by rw[bI]
inductive PutsM (g m:Nat) (w:World) (cs:List Value):World->List Value->Prop
 |nil:PutsM g m w cs w cs
 |zero {w1:World} {cs1:List Value} {u:Value}:PutsM g m w cs w1 cs1->0<cs1.length->PutsM g m w cs (w1.setCell ⟨g,m,none⟩ u) (cs1.set 0 u)
 |cons {w1:World} {cs1:List Value} {k:Nat} {u:Value}:PutsM g m w cs w1 cs1->k<cs1.length->PutsM g m w cs (w1.setCell ⟨g,m+k,none⟩ u) (cs1.set k u)
 |two {w1:World} {cs1:List Value} {a b:Nat} {u:Value}:PutsM g m w cs w1 cs1->a+b<cs1.length->PutsM g m w cs (w1.setCell ⟨g,m+a+b,none⟩ u) (cs1.set (a+b) u)
theorem Mem.putsM {X:List Nat} {R:List As} {t:TypeId} {g m:Nat} {w w':World} {cs cs' pre post:List Value} (hp:PutsM g m w cs w' cs') (iZ:pre.length=m) (M:Mem P w0 X w (.bk g t (pre++(cs++post))::R)):Mem P w0 X w' (.bk g t (pre++(cs'++post))::R):=by
 induction hp with
 |nil=>exact M
 |@zero w1 cs1 u _ hl ih=>have:=Mem.putSeg (j:=0) (u:=u) ih iZ hl;simpa using this
 |cons _ hl ih=>exact Mem.putSeg ih iZ hl
 |two _ hl ih=>rw[Nat.add_assoc];exact Mem.putSeg ih iZ hl
theorem Sh {p:Prop} (hp:p) (M:Mem P w0 X w L) (rs:List Nat) (n:Nat) {os:List Oper} (h:WL P ops Q rest ⟨T',D0⟩ w) (h0:∀(K:Act->World->Prop) (Z:Exit->Act->World->Prop),p->xm w L rs->K ⟨T',D0⟩ w->BN P ops K Z (os.take n) ⟨T,D0⟩ w:=by intro K Z hq hc hK;(simp only[xm,ju,AD,cF,ag,ah,Nat.reduceAdd,and_assoc]at hq hc);(try simp only[cG,cL]);(repeat (refine Qu ?_;go_simp;(try(rw[FM];rotate_left;omega))));exact Kt hK) (hd:os.drop n=rest:=by(simp only[dN,Hc])<;>with_reducible rfl):WL P ops Q os ⟨T,D0⟩ w:=Cu n os _ _ (h0 _ _ hp (M.facts rs) (by rw[hd];exact h))
theorem Sm {pre post:List Value} {m:Nat} (M:Mem P w0 X w (.bk g t (pre++(cs++post))::L)) (iZ:pre.length=m) (h:∀w',Mem P w0 X w' (.bk g t (pre++(cs'++post))::L)->WL P ops Q rest ⟨T',D0⟩ w')
 (h0:∀(K:Act->World->Prop) (Z:Exit->Act->World->Prop),AD w g m 0 cs->(∀i,w.frozen? ⟨g,i,none⟩=false)->g<w.heap.size->K ⟨T',D0⟩ w'->if Region.wanted o (yielded ops T)=true then Oper.wp P o ⟨T,D0⟩ w K Z else K ((Act.mk T D0).put o.dst undef) w:=by intro K Z hc hf hg hK;simp only[AD,Nat.reduceAdd,cF]at hc;go_simp;exact hK)
 {cs1:List Value} (hp:PutsM g m w cs w' cs1:=by(repeat'(first|with_reducible exact PutsM.nil|(with_reducible apply PutsM.cons)|(with_reducible apply PutsM.zero)|(with_reducible apply PutsM.two)))<;>simp) (hL:cs1=cs':=by(simp only[a_,be,Nat.reduceAdd])<;>with_reducible rfl):WL P ops Q (o::rest) ⟨T,D0⟩ w:=
 oL λK hK=>h0 K Q ((M.bl 0 rfl).mid iZ) (M.bl 0 rfl).frozen (M.bl 0 rfl).lt (hK _ _ (h _ (by rw[<-hL];exact Mem.putsM hp iZ M)))
end
def apL:List As->List As->List As
 |[],r=>r
 |x::t,r=>x::apL t r
theorem Ij {ops:Array Oper} {Q:Exit->Act->World->Prop} {o:Oper} {rest:List Oper} {D0:List Deferred} {T:Array Value} {L:List As} (M:Mem P w0 X w L) (n:Nat) (V:Gh->Value) (N:Gh->List As) {T1:Gh->Array Value} {L2:Gh->List As}
 (h0:∀(K:Act->World->Prop) (Z:Exit->Act->World->Prop),(∀x w',Mem P w0 X w' (apL (N x) (L.drop n))->K ((Act.mk T D0).put o.dst (V x)) w')->if Region.wanted o (yielded ops T)=true then Oper.wp P o ⟨T,D0⟩ w K Z else K ((Act.mk T D0).put o.dst undef) w)
 (h:∀x w',Mem P w0 X w' (L2 x)->WL P ops Q rest ⟨T1 x,D0⟩ w')
 (hT:∀x,(Act.mk T D0).put o.dst (V x)=⟨T1 x,D0⟩:=by intro x;(simp only[Act.put,bh,a_,be])<;>with_reducible rfl) (hL:∀x,apL (N x) (L.drop n)=L2 x:=by intro x;(simp only[dN,Hc,apL])<;>with_reducible rfl):WL P ops Q (o::rest) ⟨T,D0⟩ w:=
 oL λK hK=>h0 K Q λx w' M'=>hK _ _ (by rw[hT];exact h x w' (by rw[<-hL];exact M'))
theorem lS {v:Value} (hc:Calls P f args w λe w'=>e= .returned v/\Mem P w0 X w' R) (hK:∀(_:Gh) w',Mem P w0 X w' R->Ψ (.returned v) w'):Calls P f args w Ψ:=
 hc.mono λe w' q=>by obtain⟨rfl,M⟩:=q;exact hK (mA 0) w' M
theorem Mem.turn {C:List As} (M:Mem P w0 X w (C++R)):∃F,Sats P w C F/\F.Nodup/\∀(w':World) (C':List As),Sats P w' C' F->Mod F w w'->Mem P w0 X w' (C'++R):=by obtain⟨hm,G,h1,h2,h3⟩:=M;obtain⟨F1,F2,rfl,h4,h5⟩:=nL.1 h1;obtain⟨n1,n2,n3⟩:=aE.1 h2;refine⟨F1,h4,n1,λw' C' hs md=>⟨hm.trans md (λg hg=>h3 g fe),F1++F2,nL.2 ⟨F1,F2,rfl,hs,th h5 λg hg=>md.2.2 g (wY h5 g hg) (λhf=>n3 g hf g hg rfl)⟩,h2,h3⟩⟩
def qU (h:Hp):Nat->Int->Prop
 |0,k=>inR h k=true/\(celD h k).parts=[]
 |d+1,k=>inR h k=true/\(celD h k).parts.length<=40/\∀p∈(celD h k).parts,qU h d p
def LessP (h h':Hp):Prop:=h'.cells.length=h.cells.length/\∀k,(celD h' k).parts=(celD h k).parts\/(celD h' k).parts=[]
theorem LessP.refl:LessP h h:=⟨rfl,λ_=> .inl rfl⟩
theorem LessP.trans {h h' h'':Hp} (a:LessP h h') (b:LessP h' h''):LessP h h'':=⟨b.1.trans a.1,λk=>by
 rcases b.2 k with e|e
 ·rw[e];exact a.2 k
 ·exact .inr e⟩
theorem DU (a:LessP h h'):inR h' k=inR h k:=by unfold inR;rw[a.1]
theorem qJ {h h':Hp} (a:LessP h h'):∀{d:Nat} {k:Int},qU h d k->qU h' d k
 |0,k,e=>by
  rw[qU]at e ⊢;refine⟨by rw[DU a];exact e.1,?_⟩;rcases a.2 k with h1|h1
  ·rw[h1];exact e.2
  ·exact h1
 |d+1,k,e=>by
  rw[qU]at e ⊢;refine⟨by rw[DU a];exact e.1,?_,λp hp=>?_⟩
  ·rcases a.2 k with h1|h1
   ·rw[h1];exact e.2.1
   ·rw[h1];simp
  rcases a.2 k with h1|h1
  ·rw[h1]at hp;exact qJ a (e.2.2 p hp)
  ·rw[h1]at hp;simp at hp
theorem fQ (hi:i<h.cells.length) (k:Int):celD (eG h i x) k=if k=(i:Int) then x else celD h k:=by
 unfold celD;by_cases hk:0<=k
 ·obtain⟨j,rfl⟩:=bQ hk;rw[aN hk,aN hk,aU];show ((h.cells.set i x)[j]?).getD _=_;by_cases hj:j=i
  ·subst hj;rw[aN rfl,List.getElem?_set_self hi];rfl
  ·rw[aH dP,List.getElem?_set_ne (Ne.symm hj)]
 ·rw[aH hk,aH hk,aH dP]
theorem qN (hi:i<h.cells.length) (hx:x.parts=(celD h (i:Int)).parts\/x.parts=[]):LessP h (eG h i x):=⟨by simp,λk=>by
 rw[fQ hi];split
 ·rename_i e;subst e;exact hx
 ·exact .inl rfl⟩
def sJ (h:Hp) (B:Nat):Prop:=∀k,-(B:Int)<=(celD h k).count/\(celD h k).count<=1152921504606846976
theorem AK {C:Nat} (hb:sJ h B) (hC:B<=C):sJ h C:=λk=>⟨by have:=(hb k).1;omega,(hb k).2⟩
theorem AL (hi:i<h.cells.length) (hb:sJ h B) (hx: -(B:Int)<=x.count/\x.count<=1152921504606846976):sJ (eG h i x) B:=λk=>by
 rw[fQ hi];split
 ·exact hx
 ·exact hb k
theorem PY:∀(f d:Nat) (h:Hp) (k:Int) (B:Nat),qU h d k->d<f->sJ h B->B+41 ^ f<=1152921504606846976->relOK f h k/\LessP h (iD f h k)/\sJ (iD f h k) (B+41 ^ f)
 |0,d,h,k,B,_,hf,_,_=>by omega
 |f+1,d,h,k,B,hd,hf,hb,hB=>by
  have hin:inR h k=true:=wg;obtain⟨i,x,rfl,hil,hx,ld⟩:=kU hin;have R7:=hb (i:Int);rw[ld]at R7;have hsk:x.parts.length<=40:=by
   cases d with
   |zero=>rw[qU,ld]at hd;rw[hd.2];simp
   |succ d=>rw[qU,ld]at hd;exact hd.2.1
  have ahL:41 ^ (f+1)=41 ^ f*41:=Nat.pow_succ 41 f;have hpos:0<41 ^ f:=Nat.pow_pos dP;rw[relOK,iD,ld,aU];by_cases hp:0<x.count - 1
  ·rw[aN hp];refine⟨⟨hin,⟨by omega,R7.2⟩,.inl hp⟩,qN hil (.inl (by rw[ld];rfl)),AK (B:=B) (AL hil hb ⟨by show _<=x.count - 1;omega,by show x.count - 1<=_;omega⟩) dP⟩
  ·rw[aH hp];have l1:LessP h (eG h i lf):=qN hil (.inr rfl);have b1:sJ (eG h i lf) B:=AL hil hb ⟨by show _<=(0:Int);omega,by show (0:Int)<=_;omega⟩;have iU:∀(l:List Int) (g:Hp) (C:Nat),(∀p∈l,∃d',d'<f/\qU g d' p)->sJ g C->C+l.length*41 ^ f<=1152921504606846976->allOK (relOK f) (iD f) g l/\LessP g (l.foldl (iD f) g)/\sJ (l.foldl (iD f) g) (C+l.length*41 ^ f):=by
    intro l
    induction l with
    |nil=>intro g C _ hc _;exact⟨bO,LessP.refl,by simpa using hc⟩
    |cons p t ih=>
     intro g C hl hcg hC;obtain⟨d',hd',QO⟩:=hl p aT;have e1:(p::t).length*41 ^ f=t.length*41 ^ f+41 ^ f:=by rw[bU,Nat.succ_mul]
     rw[e1]at hC ⊢;obtain⟨r1,r2,r3⟩:=PY f d' g p C QO hd' hcg dP;obtain⟨s1,s2,s3⟩:=ih (iD f g p) (C+41 ^ f) (λq hq=>by obtain⟨d2,h2,h3⟩:=hl q (aP _ hq);exact⟨d2,h2,qJ r2 h3⟩) r3 dP
     refine⟨⟨r1,s1⟩,r2.trans s2,?_⟩;rw[bC];exact AK s3 dP
   have aho:x.parts.length*41 ^ f<=40*41 ^ f:=dd _ hsk;obtain⟨s1,s2,s3⟩:=iU x.parts (eG h i lf) B (λp Mb=>yA) b1 dP;exact⟨⟨hin,⟨by omega,R7.2⟩,.inr s1⟩,l1.trans s2,AK s3 dP⟩
theorem Td (h:Hp) (c:Cel):(gH h c).1.cells.length<=h.cells.length+1/\h.cells.length<=(gH h c).1.cells.length:=by unfold gH;cases gy h.cells 0<;>simp
theorem V2 {y:Vec} (hy:y∈v.parts):szD y.toD<=szD v.toD:=by have h1:=go v;have h2:∀(l:List Vec),y∈l->szD y.toD<=gv (l.map Vec.toD):=Gg;have h3:=h2 v.parts hy;rw[h1];simp only[szD];omega
theorem VH:∀(f d:Nat) (h:Hp) (v:Vec),okD d v=true->d<f->h.cells.length+41 ^ f<=1073741824->szD v.toD<=100000000000->rX f h v/\(fL f h v).1.cells.length<=h.cells.length+41 ^ f
 |0,d,h,v,_,hf,_,_=>by omega
 |f+1,d,h,v,hv,hf,hl,hz=>by
  have hp:=n7 hv;have ahL:41 ^ (f+1)=41 ^ f*41:=Nat.pow_succ 41 f;have hpos:0<41 ^ f:=Nat.pow_pos dP;have iU:∀(l:List Vec) (s:Hp × List Int),(∀p∈l,∃d',d'<f/\okD d' p=true/\szD p.toD<=100000000000)->s.1.cells.length+l.length*41 ^ f<=1073741824->Ba (rX f) (fL f) s l/\(l.foldl (js (fL f)) s).1.cells.length<=s.1.cells.length+l.length*41 ^ f:=by
   intro l
   induction l with
   |nil=>intro s _ _;exact⟨bO,by simp⟩
   |cons p t ih=>
    intro s hl hC;obtain⟨d',hd',hk,hzp⟩:=hl p aT;have e1:(p::t).length*41 ^ f=t.length*41 ^ f+41 ^ f:=by rw[bU,Nat.succ_mul]
    rw[e1]at hC ⊢;obtain⟨r1,r2⟩:=VH f d' s.1 p hk hd' dP hzp;have r2':(js (fL f) s p).1.cells.length<=s.1.cells.length+41 ^ f:=r2;obtain⟨s1,s2⟩:=ih (js (fL f) s p) (λq hq=>hl q (aP _ hq)) dP;exact⟨⟨r1,s1⟩,by rw[bC];omega⟩
  have aho:v.parts.length*41 ^ f<=40*41 ^ f:=dd _ hp.2;obtain⟨s1,s2⟩:=iU v.parts (h,[]) (λp Mb=>by obtain⟨d',e,hk⟩:=hp.1 p Mb;exact⟨d',by omega,hk,by have:=V2 Mb;omega⟩) (by show h.cells.length+_<=_;omega)
  have s2':(v.parts.foldl (js (fL f)) (h,[])).1.cells.length<=h.cells.length+v.parts.length*41 ^ f:=s2;have htl:=(Td (v.parts.foldl (js (fL f)) (h,[])).1 ⟨1,noParts v,(v.parts.foldl (js (fL f)) (h,[])).2⟩).1;rw[rX,fL];exact⟨⟨s1,by omega,hz,by omega⟩,by omega⟩
theorem SA {p:Int} (hp:inR h p=true):LessP h (incS h p)/\∀k,(celD (incS h p) k).count=if k=p then (celD h p).count+1 else (celD h k).count:=by
 obtain⟨i,x,rfl,hil,hx,ld⟩:=kU hp;unfold incS;rw[aU];refine⟨qN hil (.inl rfl),λk=>?_⟩;rw[fQ hil];split
 ·rfl
 ·rfl
theorem US:∀(l:List Int) (h:Hp) (U:Nat),(∀p∈l,inR h p=true)->(∀k,-1152921504606846976<=(celD h k).count/\(celD h k).count+(U:Int)<=1152921504606846976)->l.length<=U->
 allOK incOK incS h l/\LessP h (l.foldl incS h)/\(∀k,(celD (l.foldl incS h) k).parts=(celD h k).parts)
 |[],h,U,_,_,_=>⟨bO,LessP.refl,λ_=>rfl⟩
 |p::t,h,U,hr,hb,hU=>by
  rw[bU]at hU;have hp:=hr p aT;obtain⟨l1,c1⟩:=SA hp;have hp1:∀k,(celD (incS h p) k).parts=(celD h k).parts:=by
   intro k;obtain⟨i,x,rfl,hil,hx,ld⟩:=kU hp;unfold incS;rw[aU,fQ hil];split
   ·rename_i e;subst e;rfl
   ·rfl
  obtain⟨s1,s2,s3⟩:=US t (incS h p) (U - 1) (λq hq=>by rw[DU l1];exact hr q (aP _ hq)) (λk=>by have h1:=hb k;have h2:=hb p;rw[c1 k];split<;>omega) dP
  exact⟨⟨⟨hp,(hb p).1,by have:=(hb p).2;omega⟩,s1⟩,l1.trans s2,λk=>by rw[bC,s3 k,hp1 k]⟩
theorem xP (hk:fG h=true) (hz:szD h.toD<=4194304) (k:Int):0<=(celD h k).count/\(celD h k).count<=4194304:=by
 by_cases hr:0<=k/\k<h.cells.length
 ·obtain⟨i,c,rfl,hil,hc,ld⟩:=kU (show inR h k=true by simpa [inR]using hr);rw[ld];obtain⟨h1,h2,h3⟩:=jc hk;have h4:=iC.1 h2 i _ hc;simp only[m9,ax,aL]at h4;have h5:=h4.1.1;rw[pM (refs h) hil]at h5;injection h5 with h5;have h6:=List.count_le_length (a:=(i:Int)) (l:=refs h);have h7:=Lz h;omega
 ·have:=zj (h:=h) (k:=k) dP;omega
theorem Bz (hk:fG h=true) (hz:szD h.toD<=4194304):sJ h 0:=λk=>by have:=xP hk hz k;omega
def fitP (h:Hp):Nat->Int->Prop
 |0,k=>inR h k=true/\0<(celD h k).count/\(celD h k).parts=[]
 |d+1,k=>inR h k=true/\0<(celD h k).count/\(celD h k).parts.length<=40/\∀p∈(celD h k).parts,fitP h d p
theorem sR (e:fitP h d k):0<(celD h k).count/\inR h k=true:=by cases d<;>(rw[fitP]at e;exact⟨e.2.1,e.1⟩)
theorem zw {h:Hp}:∀{d:Nat} {k:Int},fitP h d k->qU h d k
 |0,k,e=>by rw[fitP]at e;rw[qU];exact⟨e.1,e.2.2⟩
 |d+1,k,e=>by rw[fitP]at e;rw[qU];exact⟨e.1,e.2.2.1,λp hp=>zw (e.2.2.2 p hp)⟩
theorem Js {h:Hp}:∀{d:Nat} {k:Int},fitP h d k->fitP h (d+1) k
 |0,k,e=>by rw[fitP]at e;rw[fitP];exact⟨e.1,e.2.1,by rw[e.2.2];simp,λp hp=>by rw[e.2.2]at hp;simp at hp⟩
 |d+1,k,e=>by rw[fitP]at e;rw[fitP];exact⟨e.1,e.2.1,e.2.2.1,λp hp=>Js (e.2.2.2 p hp)⟩
theorem Uf {h:Hp}:∀{d:Nat} {k:Int},lD h d k=true->fitP h d k:=by
 intro d
 induction d with
 |zero=>
  intro k e;cases hf:nS 0 (celD h k) with
  |false=>rw[sS hf]at e;simp at e
  |true=>
   have h1:=hf;simp only[nS,ax,aL]at h1;rw[fitP];exact⟨j7 h1.1,h1.1,wO hf⟩
 |succ d ih=>
  intro k e;cases hf:nS (d+1) (celD h k) with
  |false=>rw[sS hf]at e;simp at e
  |true=>
   have h1:=hf;simp only[nS,ax,bX,aL]at h1;rw[u_ hf,aV]at e;rw[fitP];exact⟨j7 h1.1,h1.1,by omega,λp hp=>ih (e p hp)⟩
theorem tS (hk:fG h=true) (hn:hasN h s=true):fitP h 3 (slotD h s):=by obtain⟨i,hi,hil,hs,_,_,_,_⟩:=BA hk hn;obtain⟨h1,h2,h3⟩:=jc hk;have hx:h.names[i]?=some (h.names[i]' dP):=aw dP;have h4:=iC.1 h3 i _ hx;simp only[hs,bV,s7,ax]at h4;exact Uf h4.1.2
def KeepP (h g:Hp):Prop:=∀k,0<(celD h k).count->(celD g k).parts=(celD h k).parts/\0<(celD g k).count
theorem KeepP.refl:KeepP h h:=λ_ e=>⟨rfl,e⟩
theorem KeepP.trans {h g f:Hp} (a:KeepP h g) (b:KeepP g f):KeepP h f:=λk e=>by obtain⟨a1,a2⟩:=a k e;obtain⟨b1,b2⟩:=b k a2;exact⟨b1.trans a1,b2⟩
theorem qK {h g:Hp} (a:KeepP h g):∀{d:Nat} {k:Int},fitP h d k->fitP g d k
 |0,k,e=>by rw[fitP]at e ⊢;obtain⟨a1,a2⟩:=a k e.2.1;exact⟨j7 a2,a2,a1.trans e.2.2⟩
 |d+1,k,e=>by rw[fitP]at e ⊢;obtain⟨a1,a2⟩:=a k e.2.1;rw[a1];exact⟨j7 a2,a2,e.2.2.1,λp hp=>qK a (e.2.2.2 p hp)⟩
theorem JJ (hi:i<h.cells.length) (hp:x.parts=(celD h (i:Int)).parts) (hc:0<x.count):KeepP h (eG h i x):=λk e=>by
 rw[fQ hi];split
 ·rename_i e1;subst e1;exact⟨hp,hc⟩
 ·exact⟨rfl,e⟩
theorem qV:∀{l:List Cel} {i k:Nat},gy l i=some k->∃(j:Nat) (c:Cel),k=i+j/\l[j]?=some c/\c.count=0
 |[],i,k,e=>by simp [gy]at e
 |c::t,i,k,e=>by
  rw[gy]at e;split at e
  ·rename_i h0
   injection e with e;exact⟨0,c,by omega,by simp,h0⟩
  ·obtain⟨j,c',e1,e2,e3⟩:=qV e;exact⟨j+1,c',by omega,by simpa using e2,e3⟩
theorem qG (h:Hp) (c:Cel):∃n:Nat,(gH h c).2=(n:Int)/\n<=h.cells.length/\(gH h c).1.cells[n]?=some c/\(∀j:Int,celD (gH h c).1 j=if j=(n:Int) then c else celD h j)/\(celD h (n:Int)).count=0:=by
 unfold gH;cases hf:gy h.cells 0 with
 |some k=>
  obtain⟨j,c',e1,e2,e3⟩:=qV hf;have e4:k=j:=dP;subst e4;have hk:=(ay.1 e2).1;refine⟨k,rfl,by omega,?_,λj=>fQ hk j,?_⟩
  ·show (h.cells.set k c)[k]?=_;rw[List.getElem?_set_self hk]
  ·rw[iI e2];exact e3
 |none=>
  refine⟨h.cells.length,rfl,af _,?_,λj=>?_,?_⟩
  ·show (h.cells++[c])[h.cells.length]?=_;simp
  ·unfold celD;by_cases hj:0<=j
   ·obtain⟨i,rfl⟩:=bQ hj;rw[aN hj,aN hj,aU];show ((h.cells++[c])[i]?).getD _=_;by_cases hi:i=h.cells.length
    ·subst hi;rw[aN rfl];simp
    ·rw[aH dP];by_cases hl:i<h.cells.length
     ·rw[cY hl]
     ·rw[b_ dS,b_ dP]
   ·rw[aH hj,aH hj,aH dP]
  ·unfold celD;rw[aN dP,aU,b_ (af _)];rfl
theorem Kg (h:Hp) (c:Cel):KeepP h (gH h c).1:=λk e=>by obtain⟨n,_,_,_,h4,h5⟩:=qG h c;rw[h4 k,aH (by rintro rfl;omega)];exact⟨rfl,e⟩
theorem Of (hb:sJ h B) (hc:c.count=1):sJ (gH h c).1 B:=λk=>by
 obtain⟨n,_,_,_,h4,h5⟩:=qG h c;rw[h4 k];split
 ·rw[hc];omega
 ·exact hb k
theorem ED (P:Hp->Prop) (hP:∀h c,c.count=1->P h->P (gH h c).1):∀(f:Nat) (h:Hp) (v:Vec),P h->P (fL f h v).1
 |0,h,v,e=>e
 |f+1,h,v,e=>by
  have iU:∀(l:List Vec) (s:Hp × List Int),P s.1->P (l.foldl (js (fL f)) s).1:=by
   intro l
   induction l with
   |nil=>intro s e;exact e
   |cons p t ih=>intro s e;rw[bC];exact ih _ (ED P hP f s.1 p e)
  rw[fL];exact hP _ _ rfl (iU v.parts (h,[]) e)
theorem EC (f:Nat) (h:Hp) (v:Vec) (hb:sJ h 0):KeepP h (fL f h v).1/\sJ (fL f h v).1 0/\(fL f h v).1.names=h.names/\(fL f h v).1.slots=h.slots/\(fL f h v).1.copies=h.copies:=
 ED (λg=>KeepP h g/\sJ g 0/\g.names=h.names/\g.slots=h.slots/\g.copies=h.copies) (λg c hc e=>by obtain⟨t1,t2,t3⟩:=qd g c;exact⟨e.1.trans (Kg g c),Of e.2.1 hc,t1.trans e.2.2.1,t2.trans e.2.2.2.1,t3.trans e.2.2.2.2⟩) f h v ⟨KeepP.refl,hb,rfl,rfl,rfl⟩
theorem EL {g:Hp} (hk:fitP h 3 k) (a:KeepP h g) (hb:sJ g 0):relOK 5 g k/\LessP g (iD 5 g k):=
 let r:=PY 5 3 g k 0 (zw (qK a hk)) dP hb dP
 ⟨r.1,r.2.1⟩
theorem EW {g:Hp} (h1:g.names=h.names) (h2:g.slots=h.slots) (s:Str):slotD g s=slotD h s/\hasN g s=hasN h s/\ix g.names s 0=ix h.names s 0:=by unfold slotD hasN;rw[h1,h2];exact⟨rfl,rfl,rfl⟩
theorem sV (hz:szD h.toD<=4194304):h.cells.length<=4194304/\h.names.length<=4194304:=by have:=nM h;simp only[szD,au]at this;omega
theorem Xc (hk:fG h=true) (hz:szD h.toD<=4194304) (nm:Str) (v:Vec) (hv:okD 3 v=true) (hzv:szD v.toD<=100000000000):
 ∃(h1:Hp) (k:Int),fL 4 h v=(h1,k)/\rX 4 h v/\(Lit.int .i64 k).wf=true/\h1.names.length=h1.slots.length/\(h1.names.length:Int)<=1073741824/\(hasN h1 nm=true->relOK 5 {h1 with slots:=h1.slots.set (ix h1.names nm 0).toNat k} (slotD h1 nm)):=by
 obtain⟨z1,z2⟩:=sV hz;obtain⟨p1,p2⟩:=VH 4 3 h v hv dP dP hzv;obtain⟨f1,f2,f3,f4,f5⟩:=EC 4 h v (Bz hk hz);refine⟨(fL 4 h v).1,(fL 4 h v).2,rfl,p1,?_,?_,?_,λhn=>?_⟩
 ·rw[fL];refine E6 ?_;rw[rX]at p1;exact p1.2.1
 ·rw[f3,f4];exact(jc hk).1
 ·rw[f3];omega
 ·obtain⟨s1,s2,s3⟩:=EW f3 f4 nm;rw[s2]at hn;rw[s1];exact(EL (g:={(fL 4 h v).1 with slots:=(fL 4 h v).1.slots.set (ix (fL 4 h v).1.names nm 0).toNat (fL 4 h v).2}) (tS hk hn) f1 f2).1
theorem NV (hk:fG h=true) (hz:szD h.toD<=4194304) (nm fr:Str) (hf:hasN h fr=true):
 ∃(j:Nat) (y:Cel),cellD h fr=(j:Int)/\slotD h fr=(j:Int)/\h.cells[j]?=some y/\(-1152921504606846976<=y.count/\y.count<=1152921504606846976)/\(j:Int)<=1073741824/\KeepP h (eG h j (gE y))/\(∀k,0<=(celD (eG h j (gE y)) k).count/\(celD (eG h j (gE y)) k).count<=4194305)/\
  (hasN h nm=true->relOK 5 {(eG h j (gE y)) with slots:=h.slots.set (ix h.names nm 0).toNat (j:Int)} (slotD h nm)):=by
 obtain⟨z1,z2⟩:=sV hz;have hF:=tS hk hf;obtain⟨c1,c2⟩:=sR hF;obtain⟨j,y,ej,hj,hy,ld⟩:=kU c2;have hb:=xP hk hz;have hbj:=hb (j:Int);rw[ej]at c1;have hcj:celD h (j:Int)=y:=iI hy;rw[hcj]at hbj c1;have K1:KeepP h (eG h j (gE y)):=JJ hj (by rw[hcj];rfl) (by show 0<y.count+1;omega);have B1:∀k,0<=(celD (eG h j (gE y)) k).count/\(celD (eG h j (gE y)) k).count<=4194305:=λk=>by
  rw[fQ hj];split
  ·show 0<=y.count+1/\y.count+1<=_;omega
  ·have:=hb k;omega
 refine⟨j,y,by unfold cellD;rw[aN hf,ej],ej,hy,by omega,by omega,K1,B1,λhn=>?_⟩;refine(EL (g:={(eG h j (gE y)) with slots:=h.slots.set (ix h.names nm 0).toNat (j:Int)}) (tS hk hn) K1 λk=>?_).1;have:=B1 k;show -((0:Nat):Int)<=(celD (eG h j (gE y)) k).count/\(celD (eG h j (gE y)) k).count<=_;omega
inductive Reach (h:Hp):Int->Int->Prop
 |refl (k:Int):Reach h k k
 |step {y p k:Int}:p∈(celD h y).parts->Reach h p k->Reach h y k
theorem EI {h g:Hp} (a:LessP h g) {y k:Int} (r:Reach g y k):Reach h y k:=by
 induction r with
 |refl k=>exact .refl k
 |step hp _ ih=>
  rename_i y p k _
  rcases a.2 y with e|e
  ·rw[e]at hp;exact .step hp ih
  ·rw[e]at hp;simp at hp
theorem SW {h:Hp} {y k:Int} (r:Reach h y k):∀{d:Nat},fitP h d y->fitP h d k:=by
 induction r with
 |refl k=>intro d e;exact e
 |step hp _ ih=>
  intro d e;cases d with
  |zero=>rw[fitP]at e;rw[e.2.2]at hp;simp at hp
  |succ d=>rw[fitP]at e;exact Js (ih (e.2.2.2 _ hp))
theorem Ka {h:Hp} {y k:Int} (hy:y∈(celD h k).parts) (r:Reach h y k):∀(d:Nat),¬fitP h d k
 |0,e=>by rw[fitP]at e;rw[e.2.2]at hy;simp at hy
 |d+1,e=>by have e':=e;rw[fitP]at e;exact Ka hy r d (SW r (e.2.2.2 y hy))
theorem PX {h:Hp} {n:Nat} {x:Cel} (hn:n<h.cells.length) {y k:Int} (r:Reach (eG h n x) y k) (hk:k=(n:Int)):Reach h y k:=by
 induction r with
 |refl k=>exact .refl k
 |step hp _ ih=>
  rename_i y p k _
  by_cases e:y=(n:Int)
  ·rw[e,hk];exact .refl _
  ·rw[fQ hn,aH e]at hp;exact .step hp (ih hk)
theorem MO {h:Hp} {n:Nat} {x:Cel} (hn:n<h.cells.length):∀{d:Nat} {y:Int},fitP h d y->¬Reach h y (n:Int)->fitP (eG h n x) d y
 |0,y,e,hr=>by have hy:¬y=(n:Int):=λe1=>hr (by rw[e1];exact .refl _);rw[fitP]at e ⊢;rw[fQ hn,aH hy];exact⟨j7 (by rw[fQ hn,aH hy];exact e.2.1),e.2.1,e.2.2⟩
 |d+1,y,e,hr=>by have hy:¬y=(n:Int):=λe1=>hr (by rw[e1];exact .refl _);rw[fitP]at e ⊢;rw[fQ hn,aH hy];exact⟨j7 (by rw[fQ hn,aH hy];exact e.2.1),e.2.1,e.2.2.1,λp hp=>MO hn (e.2.2.2 p hp) (λr=>hr (.step hp r))⟩
theorem EM:∀(f d:Nat) (h:Hp) (y:Int),qU h d y->d<f->LessP h (iD f h y)/\∀k,¬Reach h y k->celD (iD f h y) k=celD h k
 |0,d,h,y,_,hf=>by omega
 |f+1,d,h,y,hd,hf=>by
  have hin:inR h y=true:=wg;obtain⟨i,x,rfl,hil,hx,ld⟩:=kU hin;rw[iD,ld,aU];have jC:∀k,¬Reach h (i:Int) k->¬k=(i:Int):=λk hr e=>hr (by rw[e];exact .refl _);by_cases hp:0<x.count - 1
  ·rw[aN hp];exact⟨qN hil (.inl (by rw[ld];rfl)),λk hr=>by rw[fQ hil,aH (jC k hr)]⟩
  ·rw[aH hp];have l1:LessP h (eG h i lf):=qN hil (.inr rfl);have iU:∀(l:List Int) (g:Hp),(∀p∈l,∃d',d'<f/\qU g d' p)->LessP g (l.foldl (iD f) g)/\∀k,(∀p∈l,¬Reach g p k)->celD (l.foldl (iD f) g) k=celD g k:=by
    intro l
    induction l with
    |nil=>intro g _;exact⟨LessP.refl,λ_ _=>rfl⟩
    |cons p t ih=>
     intro g hl;obtain⟨d',hd',QO⟩:=hl p aT;obtain⟨r1,r2⟩:=EM f d' g p QO hd';obtain⟨s1,s2⟩:=ih (iD f g p) (λq hq=>by obtain⟨d2,h2,h3⟩:=hl q (aP _ hq);exact⟨d2,h2,qJ r1 h3⟩)
     refine⟨r1.trans s1,λk hr=>?_⟩;rw[bC,s2 k (λq hq r=>hr q (aP _ hq) (EI r1 r)),r2 k (hr p aT)]
   obtain⟨s1,s2⟩:=iU x.parts (eG h i lf) (λp Mb=>yA);refine⟨l1.trans s1,λk hr=>?_⟩;rw[s2 k (λp Mb r=>hr (.step (by rw[ld];exact Mb) (EI l1 r))),fQ hil,aH (jC k hr)]
theorem NJ {k:Nat}{x':Cel} {m:Nat} {y:Int} (hk:fitP h 3 (k:Int)) (hx:h.cells[k]?=some x) (hy:x.parts[m]?=some y) (hb:sJ h 0) (qD:0<=x'.count/\x'.count<=1152921504606846976):
 relOK 5 (eG h k x') y/\(iD 5 (eG h k x') y).cells[k]?=some x':=by
 have Ch:=(ay.1 hx).1;have ld:=iI hx;have hym:y∈(celD h (k:Int)).parts:=by rw[ld];exact aA hy
 have hnr:¬Reach h y (k:Int):=λr=>Ka hym r 3 hk;have hfy:fitP h 2 y:=by rw[fitP]at hk;exact hk.2.2.2 y hym
 have hf2:fitP (eG h k x') 2 y:=MO Ch hfy hnr;have ahD:¬Reach (eG h k x') y (k:Int):=λr=>hnr (PX Ch r rfl);obtain⟨r1,r2⟩:=EM 5 2 (eG h k x') y (zw hf2) dP;have jS:sJ (eG h k x') 0:=AL Ch hb dP;refine⟨(PY 5 2 (eG h k x') y 0 (zw hf2) dP jS dP).1,?_⟩;have hl:k<(iD 5 (eG h k x') y).cells.length:=by rw[r1.1];simpa using Ch
 have h1:=r2 (k:Int) ahD;rw[fQ Ch,aN rfl,iI (aw hl)]at h1;rw[aw hl,h1]
theorem JD:∀(l:List Int) (h:Hp) (U:Nat),(∀p∈l,0<(celD h p).count)->(∀k,0<=(celD h k).count/\(celD h k).count<=(U:Int))->KeepP h (l.foldl incS h)/\(∀k,0<=(celD (l.foldl incS h) k).count/\(celD (l.foldl incS h) k).count<=(U:Int)+l.length)/\(l.foldl incS h).cells.length=h.cells.length/\∀k,(celD h k).count<=(celD (l.foldl incS h) k).count/\(celD (l.foldl incS h) k).value=(celD h k).value
 |[],h,U,_,hb=>⟨KeepP.refl,λk=>by have:=hb k;simpa using this,rfl,λk=>⟨Int.le_refl _,rfl⟩⟩
 |p::t,h,U,hr,hb=>by
  have hp:=hr p aT;obtain⟨i,x,rfl,hil,hx,ld⟩:=kU (j7 hp);have hc:∀k,celD (incS h (i:Int)) k=if k=(i:Int) then gE x else celD h k:=λk=>by unfold incS;rw[aU,fQ hil,ld]
  have hbi:=hb (i:Int);rw[ld]at hbi hp;have K1:KeepP h (incS h (i:Int)):=by unfold incS;rw[aU,ld];exact JJ hil (by rw[ld];rfl) (by show 0<x.count+1;omega)
  obtain⟨s1,s2,s3,s4⟩:=JD t (incS h (i:Int)) (U+1) (λq hq=>(K1 q (hr q (aP _ hq))).2) (λk=>by
   rw[hc k];split
   ·show 0<=x.count+1/\x.count+1<=_;omega
   ·have:=hb k;omega)
  rw[bC];refine⟨K1.trans s1,λk=>?_,by rw[s3];simp [incS],λk=>?_⟩
  ·have:=s2 k;rw[bU];omega
  ·have h4:=s4 k;rw[hc k]at h4;split at h4
   ·rename_i e
    subst e;rw[ld];exact⟨by have:(gE x).count=x.count+1:=rfl;omega,h4.2⟩
   ·exact h4
theorem VA (gK:h.names.length=h.slots.length) (hnm:(h.names.length:Int)<=1073741824) (hs:hasN h s=true) (hf:fitP h 3 (slotD h s)) (hc:∀k,0<=(celD h k).count/\(celD h k).count<=4194305)
 (hv:(celD h (slotD h s)).value.parts=[]) (hz:szD (celD h (slotD h s)).value.toD<=500000000000) (K9:h.cells.length<=4194304):
 OwnOK h s/\∃(k:Nat) (x:Cel),(iz h s).2=(k:Int)/\(iz h s).1.cells[k]?=some x/\x.count=1/\x.value=(celD h (slotD h s)).value/\x.parts=(celD h (slotD h s)).parts/\fitP (iz h s).1 3 (k:Int)/\sJ (iz h s).1 0:=by
 obtain⟨c1,c2⟩:=sR hf;obtain⟨i,x,ei,hil,hx,ld⟩:=kU c2;have Zy:=hf;rw[fitP]at Zy;obtain⟨-,-,f1,f2⟩:=Zy;have Pw:∀p∈(celD h (slotD h s)).parts,0<(celD h p).count:=λp hp=>(sR (f2 p hp)).1;obtain⟨k1,k2,k3,k4⟩:=JD (celD h (slotD h s)).parts h 4194305 Pw hc;have hio:=(US (celD h (slotD h s)).parts h 40 (λp hp=>(sR (f2 p hp)).2) (λk=>by have:=hc k;omega) f1).1;have adZ:=nX tX (celD h (slotD h s)).parts h;obtain⟨n,t1,t2,t3,t4,t5⟩:=qG ((celD h (slotD h s)).parts.foldl incS h) ⟨1,(celD h (slotD h s)).value,(celD h (slotD h s)).parts⟩;have tn:=qd ((celD h (slotD h s)).parts.foldl incS h) ⟨1,(celD h (slotD h s)).value,(celD h (slotD h s)).parts⟩;have KO:KeepP h (ownH h s).1:=k1.trans (Kg _ _);have BO:sJ (ownH h s).1 0:=Of (λk=>by have:=k2 k;omega) rfl;obtain⟨s1,s2,s3⟩:=EW (h:=h) (g:=(ownH h s).1) (tn.1.trans adZ.1) (tn.2.1.trans adZ.2.1) s;have RO:=EL (g:={(ownH h s).1 with slots:=(ownH h s).1.slots.set (ix (ownH h s).1.names s 0).toNat (ownH h s).2}) hf KO BO;refine⟨⟨gK,hnm,hs,c2,.inr ⟨hv,hz,by omega,hio,by rw[k3];omega,by rw[s1];exact RO.1⟩⟩,?_⟩;by_cases h1:(celD h (slotD h s)).count=1
 ·have e:iz h s=(h,slotD h s):=by unfold iz;rw[aN h1]
  rw[e];refine⟨i,x,ei,hx,by rw[ld]at h1;exact h1,by rw[ld],by rw[ld],by rw[<-ei];exact hf,show sJ h 0 from λk=>by have:=hc k;omega⟩
 ·have e:iz h s=({fd (ownH h s).1 s (ownH h s).2 with copies:=wrap64 (h.copies+1)},(ownH h s).2):=by unfold iz;rw[aH h1]
  have h2:2<=(celD h (slotD h s)).count:=dP;have jC:¬slotD h s=(n:Int):=by intro e1;rw[<-e1]at t5;have:=(k4 (slotD h s)).1;omega
  have hcO:celD (ownH h s).1 (slotD h s)=celD ((celD h (slotD h s)).parts.foldl incS h) (slotD h s):=by have:=t4 (slotD h s);rw[aH jC]at this;exact this
  have aa_:2<=(celD (ownH h s).1 (slotD h s)).count:=by rw[hcO];have:=(k4 (slotD h s)).1;omega
  have hlO:i<(ownH h s).1.cells.length:=by obtain⟨-,q2⟩:=sR (qK KO hf);rw[ei]at q2;simp [inR]at q2;exact q2
  have hb:fd (ownH h s).1 s (ownH h s).2=eG {(ownH h s).1 with slots:=(ownH h s).1.slots.set (ix (ownH h s).1.names s 0).toNat (ownH h s).2} i (KP (celD (ownH h s).1 (slotD h s))):=by
   have JC:0<=ix (ownH h s).1.names s 0:=by rw[s3];simpa [hasN]using hs
   unfold fd;rw[aN JC,s1,iD];have:celD {(ownH h s).1 with slots:=(ownH h s).1.slots.set (ix (ownH h s).1.names s 0).toNat (ownH h s).2} (slotD h s)=celD (ownH h s).1 (slotD h s):=rfl;rw[this,aN dP];rw[show (slotD h s).toNat=i from by rw[ei];rfl]
  rw[e];have hni:¬n=i:=by intro e1;rw[e1]at jC;exact jC ei
  have Up:∀k,celD (fd (ownH h s).1 s (ownH h s).2) k=if k=(i:Int) then KP (celD (ownH h s).1 (slotD h s)) else celD (ownH h s).1 k:=λk=>by rw[hb];exact fQ (h:={(ownH h s).1 with slots:=_}) hlO k
  have ZL:(fd (ownH h s).1 s (ownH h s).2).cells[n]?=some ⟨1,(celD h (slotD h s)).value,(celD h (slotD h s)).parts⟩:=by rw[hb];show ((ownH h s).1.cells.set i _)[n]?=_;rw[List.getElem?_set_ne dP];exact t3
  have KB:KeepP (ownH h s).1 (fd (ownH h s).1 s (ownH h s).2):=λk hk=>by
   rw[Up k];split
   ·rename_i e1
    subst e1;rw[ei];refine⟨rfl,?_⟩;rw[ei]at aa_;show 0<(celD (ownH h s).1 (i:Int)).count - 1;omega
   ·exact⟨rfl,hk⟩
  refine⟨n,_,t1,ZL,rfl,rfl,rfl,?_,λk=>?_⟩
  ·show fitP {fd (ownH h s).1 s (ownH h s).2 with copies:=_} 3 (n:Int);have q:KeepP (fd (ownH h s).1 s (ownH h s).2) {fd (ownH h s).1 s (ownH h s).2 with copies:=wrap64 (h.copies+1)}:=λk e=>⟨rfl,e⟩;refine qK q ?_;have hcn:=iI ZL;rw[fitP];refine⟨j7 (by rw[hcn];show (0:Int)<1;omega),by rw[hcn];show (0:Int)<1;omega,by rw[hcn];exact f1,λp hp=>?_⟩;rw[hcn]at hp;exact qK (KO.trans KB) (f2 p hp)
  ·show -((0:Nat):Int)<=(celD (fd (ownH h s).1 s (ownH h s).2) k).count/\_<=_;show _/\(celD (fd (ownH h s).1 s (ownH h s).2) k).count<=_;rw[Up k];have:=BO k;have:=BO (slotD h s);split
   ·show -((0:Nat):Int)<=(celD (ownH h s).1 (slotD h s)).count - 1/\(celD (ownH h s).1 (slotD h s)).count - 1<=_;omega
   ·assumption
theorem AM:∀(m f k:Nat) (s:Str),k<10 ^ m->(xM f k s).length<=m+s.length
 |0,f,k,s,h=>by
  have hk:k=0:=lj;subst hk;cases f with
  |zero=>simp [xM]
  |succ f=>rw[xM,aN rfl];omega
 |m+1,f,k,s,h=>by
  cases f with
  |zero=>simp [xM]
  |succ f=>
   rw[xM];split
   ·simp
   ·have:=AM m f (k/10) (((48:UInt8)+UInt8.ofNat (k % 10))::s) (by rw[Nat.pow_succ]at h;omega);simp only[bU]at this;omega
theorem Dw {n:Int} (h: -999999999<=n/\n<=999999999):(ja n).length<=10:=by
 have hk:n.natAbs<10 ^ 9:=dP;unfold ja;split
 ·simp
 ·split
  ·have:=AM 9 n.natAbs n.natAbs [] hk;simp at this ⊢;omega
  ·have:=AM 9 n.natAbs n.natAbs [] hk;simp at this;omega
theorem Pj (x:Item):(qq x).length<=60:=by
 unfold qq;split
 ·simp
 ·split
  ·next h=>
   have hb:=vw h;have h1:=Dw hb.2;have h2:=Dw (n:=x.den) dP;split
   ·omega
   ·simp only[aY,bt];omega
  ·simp
theorem DZ {t:Str} (h:t.length<=60):itemOK 3 (sN t)=true:=by simp [itemOK,sN,h]
theorem JG {frm:Int} {x:Item} (h:itemOK frm x=true) (h1:1<=frm) (hk:frm<=k) (h3:k<=3):itemOK k (gI frm k x)=true:=by
 unfold gI;split
 ·next hc=>
  rcases hc with hc|rfl|rfl
  ·simp [itemOK,hc]
  ·exact h
  ·rcases(by omega:frm=1\/frm=2) with rfl|rfl
   ·unfold itemOK at h ⊢;rw[bX]at h ⊢;rcases h with h|h
    ·exact .inl h
    ·right;simp only[if_true,ax,beq_iff_eq,bX,dh]at h;rw[aH dQ,aN rfl];unfold nZ;obtain⟨⟨h1,h2⟩,h3⟩:=h;rw[h1,h2];rcases h3 with h3|h3<;>rw[h3]<;>decide
   ·exact h
 ·split
  ·next hc h2=>
   have h3:k=3:=dP;subst h3;exact DZ (Pj x)
  ·next hc h2=>
   have h3:k=3:=dP;subst h3;split<;>exact DZ dQ
theorem rU {x:Item} (h:itemOK k x=true):itOK x:=by
 unfold itemOK at h;rw[bX]at h;rcases h with h|h
 ·obtain rfl:x=⟨0,0,[]⟩:=by simpa [eI]using h
  exact⟨by decide,by decide,by decide⟩
 ·split at h
  ·simp only[ax,beq_iff_eq,bX,dh]at h;obtain⟨⟨h1,h2⟩,h3⟩:=h;refine⟨kP.2 dP,kP.2 dP,by rw[h1];decide⟩
  ·split at h
   ·have hb:=vw h;simp only[nZ,ax,dh]at h;refine⟨kP.2 dP,kP.2 dP,by rw[h.1.1.1];decide⟩
   ·split at h
    ·simp only[ax,beq_iff_eq,aL]at h;refine⟨kP.2 dP,kP.2 dP,by unfold maxLen;omega⟩
    ·cases h
theorem QX {x:Item} (h:itemOK 1 x=true):0<=x.num/\x.num<2:=by
 unfold itemOK at h;rw[bX]at h;rcases h with h|h
 ·obtain rfl:x=⟨0,0,[]⟩:=by simpa [eI]using h
  decide
 ·simp only[if_true,ax,beq_iff_eq,bX]at h;omega
theorem NU {lv:List Str} (hk:0<=k/\k<=4) (hl:its.length+ps.length<=40) (hc:mF cls 3=true) (hv:mF lv 20=true) (hn:(ns.length=0\/(ns.length=its.length+ps.length/\lR ns=false))/\∀s∈ns,s.length<=60)
 (h1:0<lv.length->k=2) (h2:0<ps.length->k=4) (h3:k=0->its.length=0/\cls.length=0) (hi:∀x∈its,atomK k=true/\itemOK k x=true/\(lv.length=0\/eI x=true\/(x.den=1/\1<=x.num/\x.num<=lv.length))):
 h_ ⟨k,its,ps,ns,cls,lv,0,0⟩=true:=by
 have ZB:lenV ⟨k,its,ps,ns,cls,lv,0,0⟩=its.length+ps.length:=by unfold lenV;rw[aH (show ¬k=5 by omega)]
 simp only[h_,ax];refine⟨⟨⟨?_,?_⟩,?_⟩,?_⟩
 ·simp only[CO,ax,aL,ZB];exact⟨⟨⟨hk.1,by omega,hl⟩,hc⟩,hv⟩
 ·simp only[IY,ax,bX,aL,aV,ZB];refine⟨?_,λs hs=>hn.2 s hs⟩;rcases hn.1 with h|⟨h,h'⟩
  ·exact .inl h
  ·exact .inr ⟨h,by rw[h'];rfl⟩
 ·unfold P6 IZ;exact aM ⟨λh=>h1 dP,λh=>h2 dP,λ_=>⟨rfl,rfl⟩,λh=>absurd h (show ¬k=5 by omega),λh=>by have:=h3 h;omega⟩
 ·rw[aV];intro x hx;obtain⟨a,b,c⟩:=hi x hx;simp only[wZ,SB,ax,bX,aL];refine⟨a,b,?_⟩;rcases c with c|c|c
  ·exact .inl (.inl c)
  ·exact .inl (.inr c)
  ·exact .inr c
theorem FV.more (h:h_ v=true):(mF v.cls 3=true/\mF v.levels 20=true)/\(v.names.length=0\/(v.names.length=lenV v/\lR v.names=false))/\(0<v.levels.length->v.kind=2)/\(v.kind≠5->v.code=0/\v.env=0)/\(v.kind=0->v.items.length=0/\v.cls.length=0)/\∀x∈v.items,v.levels.length=0\/eI x=true\/(x.den=1/\1<=x.num/\x.num<=v.levels.length):=by
 simp only[h_,ax]at h;obtain⟨⟨⟨hA,hN⟩,hC⟩,hI⟩:=h;simp only[CO,ax,aL]at hA;have hC2:IZ v.kind v.code v.env v.items.length v.parts.length v.names.length v.cls.length v.levels.length:=cD hC;obtain⟨c1,c2,c3,c4,c5⟩:=hC2;simp only[IY,ax,bX,aL]at hN;rw[aV]at hI;refine⟨⟨hA.1.2,hA.2⟩,?_,λh=>c1 dP,c3,λh=>by have:=c5 h;omega,λx hx=>?_⟩
 ·rcases hN.1 with h|⟨h,h'⟩
  ·exact .inl h
  ·exact .inr ⟨h,by simpa using h'⟩
 ·have:=hI x hx;simp only[wZ,SB,ax,bX,aL]at this;rcases this.2.2 with (h|h)|h
  ·exact .inl h
  ·exact .inr (.inl h)
  ·exact .inr (.inr h)
theorem tm {α:Type} (f:α->D) (B:Nat):∀(l:List α),(∀x∈l,szD (f x)<=B)->gv (l.map f)<=l.length*B
 |[],_=>by simp [gv]
 |a::t,h=>by rw[br,gv,bU,Nat.succ_mul];have h1:=h a aT;have h2:=tm f B t λx hx=>h x (aP _ hx);omega
theorem D5 {x:Item} (h:itemOK k x=true):x.text.length<=60:=by
 unfold itemOK at h;rw[bX]at h;rcases h with h|h
 ·obtain rfl:x=⟨0,0,[]⟩:=by simpa [eI]using h
  decide
 ·split at h
  ·simp only[ax,dh]at h;rw[h.1.1];decide
  ·split at h
   ·simp only[nZ,ax,dh]at h;rw[h.1.1.1];decide
   ·split at h
    ·simp only[ax,aL]at h;exact h.2
    ·cases h
structure VB (v:Vec) (B:Nat):Prop where
 i:v.items.length<=41/\∀x∈v.items,x.text.length<=60
 p:v.parts.length<=41/\∀x∈v.parts,szD x.toD<=B
 n:v.names.length<=41/\∀x∈v.names,x.length<=60
 c:v.cls.length<=40/\∀x∈v.cls,x.length<=60
 l:v.levels.length<=40/\∀x∈v.levels,x.length<=60
theorem VB.sz (h:VB v B):szD v.toD<=10000+41*B:=by obtain⟨h1,h2,h3,h4,h5⟩:=h;have e:=go v;simp only[szD,au]at e;have i:=tm Item.toD 60 v.items (λx hx=>by have:=h1.2 x hx;simp only[Item.toD,szD,gv];omega);have p:=tm Vec.toD B v.parts h2.2;have n:=tm D.s 60 v.names (λx hx=>by simpa [szD]using h3.2 x hx);have c:=tm D.s 60 v.cls (λx hx=>by simpa [szD]using h4.2 x hx);have l:=tm D.s 60 v.levels (λx hx=>by simpa [szD]using h5.2 x hx);have q:=dd B h2.1;omega
theorem pB (F:FV v):v.names.length<=40:=by
 rcases F.nn with h|h
 ·omega
 ·have h1:=F.len;unfold lenV at h;split at h
  ·omega
  ·omega
theorem FV.vb (F:FV v) (h:∀x∈v.parts,szD x.toD<=B):VB v B:=by have h1:=F.len;exact⟨⟨by omega,λx hx=>D5 (F.it x hx)⟩,⟨by omega,h⟩,⟨by have:=pB F;omega,F.names⟩,⟨by have:=F.cls.1;omega,F.cls.2⟩,⟨by have:=F.lev.1;omega,F.lev.2⟩⟩
theorem AZ:∀{d:Nat} {v:Vec},okD d v=true->szD v.toD<=10000*42 ^ d
 |0,v,h=>by have F:=FV.of (jB h);rw[okD]at h;simp only[ax,dh]at h;have:=(F.vb (B:=0) (λx hx=>by rw[h.2]at hx;simp at hx)).sz;omega
 |d+1,v,h=>by have F:=FV.of (jB h);rw[okD]at h;simp only[ax,aV]at h;have h1:=(F.vb (B:=10000*42 ^ d) (λx hx=>AZ (h.2 x hx))).sz;have h2:0<42 ^ d:=Nat.pow_pos dP;rw[Nat.pow_succ];omega
theorem i6 (h:isVec v=true):okD 3 v=true/\jF v<=200:=by unfold isVec at h;simpa using h
theorem vz (h:isVec v=true):szD v.toD<=740880000:=AZ (i6 h).1
theorem eC (h:isVec v=true):bigV v:=by have:=vz h;unfold bigV;omega
theorem jf (h:isVec v=true):FV v:=FV.of (jB (i6 h).1)
theorem vy (h1:okD 3 v=true) (h2:jF v<=200):isVec v=true:=by unfold isVec;rw[h1,aM h2];rfl
theorem rr (n:Nat):mF [] n=true:=by simp [mF,vE]
theorem Ev (hk:0<=k/\k<=3) (h0:0<its.length->1<=k) (hl:its.length<=40) (hn:(ns.length=0\/(ns.length=its.length/\lR ns=false))/\∀s∈ns,s.length<=60) (hi:∀x∈its,itemOK k x=true):okD d ⟨k,its,[],ns,[],[],0,0⟩=true:=by
 have hs:h_ ⟨k,its,[],ns,[],[],0,0⟩=true:=NU dP (by simpa using hl) (rr 3) (rr 20) (by simpa using hn) dR dR (λh=>⟨by
  rcases bz its.length with h2|h2
  ·exact h2
  ·have:=h0 h2;omega,rfl⟩) (λx hx=>⟨by have:=h0 (List.length_pos_of_mem hx);unfold atomK;exact aM dP,hi x hx,.inl rfl⟩)
 cases d<;>(rw[okD,hs];rfl)
theorem DW (hk:0<=k/\k<=3) (h0:0<its.length->1<=k) (hl:its.length<=40) (hn:(ns.length=0\/(ns.length=its.length/\lR ns=false))/\∀s∈ns,s.length<=60) (hi:∀x∈its,itemOK k x=true):isVec ⟨k,its,[],ns,[],[],0,0⟩=true:=by refine vy (Ev hk h0 hl hn hi) ?_;have h1:=wV ⟨k,its,[],ns,[],[],0,0⟩;rw[jU];simp only[ik,bf]at h1 ⊢;omega
theorem JF {x:Item} (h1:1<=k) (h3:k<=3) (hx:itemOK k x=true):isVec ⟨k,[x],[],[],[],[],0,0⟩=true:=
 DW dP (λ_=>h1) dR dR oh
theorem tY (hl:ps.length<=40) (hc:mF cls 3=true) (hn:(ns.length=0\/(ns.length=ps.length/\lR ns=false))/\∀s∈ns,s.length<=60) (hp:∀x∈ps,okD d x=true):okD (d+1) ⟨4,[],ps,ns,cls,[],0,0⟩=true:=by have hs:h_ ⟨4,[],ps,ns,cls,[],0,0⟩=true:=NU dP (by simpa using hl) hc (rr 20) (by simpa using hn) dR dR (λh=>by omega) dR;rw[okD,hs];simpa [aV]using hp
theorem PF {x:Item} (h1:1<=k) (h3:k<=3) (hx:itemOK k x=true):isVec ⟨4,[],[qw k x],[],[],[],0,0⟩=true:=by
 refine vy (tY dR (rr 3) dR (λz hz=>?_)) ?_
 ·obtain rfl:z=qw k x:=ms;exact Ev dP (λ_=>h1) dR dR oh
 ·have h1:=wV (qw k x);have h2:=wV ⟨4,[],[qw k x],[],[],[],0,0⟩;rw[jU,ik,jU];simp only[ik,qw,bf,bt]at h1 h2 ⊢;omega
theorem rm (h:isVec v=true) (h4:v.kind=4):v=⟨4,[],v.parts,v.names,v.cls,[],0,0⟩/\isVec ⟨4,[],v.parts,v.names,[],[],0,0⟩=true:=by
 obtain⟨h1,h2⟩:=i6 h;have F:=jf h;obtain⟨m1,m2,m3,m4,m5,m6⟩:=FV.more (jB h1);have Uu:v.items=[]:=by
  rcases bz v.items.length with e|e
  ·exact aR.1 e
  ·have:=F.ni e;rw[h4]at this;simp [atomK]at this
 have kQ:v.levels=[]:=by
  rcases bz v.levels.length with e|e
  ·exact aR.1 e
  ·have:=m3 e;omega
 obtain⟨c1,c2⟩:=m4 dP;have hv:v=⟨4,[],v.parts,v.names,v.cls,[],0,0⟩:=by obtain⟨a,b,c,d,e,f,g,i⟩:=v;simp only at h4 Uu kQ c1 c2;rw[h4,Uu,kQ,c1,c2]
 refine⟨hv,vy (tY (by have:=F.len;omega) (rr 3) ⟨?_,F.names⟩ ?_) ?_⟩
 ·rcases m2 with e|⟨e,e'⟩
  ·exact .inl e
  ·refine .inr ⟨?_,e'⟩;rw[e];unfold lenV;rw[aH dP,Uu];simp
 ·rw[okD]at h1;simp only[ax,aV]at h1;exact h1.2
 ·rw[jU]at h2 ⊢;have:lenV v=lenV ⟨4,[],v.parts,v.names,[],[],0,0⟩:=by unfold lenV;rw[h4,Uu]
  rw[<-this];exact h2
theorem Y3 {x:Vec} (hx:isVec x=true) (hk:1<=x.kind/\x.kind<=3) (h1:x.items.length=1):∃(xk:Int) (y:Item) (xn xc xl:List Str),x=⟨xk,[y],[],xn,xc,xl,0,0⟩:=by
 have F:=jf hx;obtain⟨m1,m2,m3,m4,m5,m6⟩:=FV.more (jB (i6 hx).1);have hp:x.parts=[]:=by
  rcases bz x.parts.length with e|e
  ·exact aR.1 e
  ·have:=F.np e;omega
 obtain⟨c1,c2⟩:=m4 dP;obtain⟨a,b,c,d,e,f,g,i⟩:=x;simp only at hp c1 c2 h1;obtain⟨y,hy⟩:=List.length_eq_one_iff.1 h1;exact⟨a,y,d,e,f,by rw[hp,c1,c2,hy]⟩
theorem kD (h:Hp):szD h.toD=h.cells.length+gv (h.cells.map Cel.toD)+(h.names.length+gv (h.names.map .s))+h.slots.length:=by have:=nM h;have e:gv (h.slots.map (.i .i64))=0:=Bd (λ_=>rfl) _;simp only[szD,au]at this;omega
theorem Bu (c:Cel):szD c.toD=szD c.value.toD+c.parts.length:=by have:=wF c;have e:gv (c.parts.map (.i .i64))=0:=Bd (λ_=>rfl) _;simp only[szD,au]at this;omega
theorem FR:szD (Cel.toD ⟨0,zeroV,[]⟩)=0:=by rw[Bu];simp [zeroV,go,szD,gv]
theorem Rr:∀(l:List Cel) (i:Nat) (x:Cel),gv ((l.set i x).map Cel.toD)+szD ((l[i]?).getD ⟨0,zeroV,[]⟩).toD<=gv (l.map Cel.toD)+szD x.toD
 |[],i,x=>by simp [gv,FR]
 |c::t,0,x=>by simp only[a_,br,gv,ah,bV];omega
 |c::t,i+1,x=>by have:=Rr t i x;simp only[be,br,gv,ag];omega
theorem wT (h:Hp) (i:Nat) (x:Cel):szD (eG h i x).toD+szD (celD h (i:Int)).toD<=szD h.toD+szD x.toD:=by
 have:=Rr h.cells i x;have e:celD h (i:Int)=(h.cells[i]?).getD ⟨0,zeroV,[]⟩:=by unfold celD;rw[aN dP];rfl
 rw[kD,kD h,e];have e1:(eG h i x).cells=h.cells.set i x:=rfl;have e2:(eG h i x).names=h.names:=rfl;have e3:(eG h i x).slots=h.slots:=rfl;rw[e1,e2,e3,da];omega
theorem UR (h:Hp) (k:Int) (x:Cel) (hx:szD x.toD<=szD (celD h k).toD):szD (eG h k.toNat x).toD<=szD h.toD:=by
 have h1:=wT h k.toNat x;by_cases hk:0<=k
 ·rw[Int.toNat_of_nonneg hk]at h1;omega
 ·have:szD (celD h k).toD=0:=by unfold celD;rw[aH hk];exact FR
  omega
theorem PA:∀(f:Nat) (h:Hp) (k:Int),szD (iD f h k).toD<=szD h.toD
 |0,h,k=>af _
 |f+1,h,k=>by
  have iU:∀(l:List Int) (g:Hp),szD (l.foldl (iD f) g).toD<=szD g.toD:=by
   intro l
   induction l with
   |nil=>intro g;exact af _
   |cons p t ih=>intro g;rw[bC];exact du (ih _) (PA f g p)
  rw[iD];split
  ·exact UR h k _ (by rw[Bu,Bu];exact af _)
  ·exact du (iU _ _) (UR h k _ (by rw[show szD lf.toD=0 from FR];exact dj _))
theorem QT:∀(l:List Int) (h:Hp),szD (l.foldl incS h).toD<=szD h.toD
 |[],h=>af _
 |p::t,h=>by rw[bC];exact du (QT t _) (UR h p _ (by rw[Bu,Bu];exact af _))
theorem QU (h:Hp) (c:Cel):szD (gH h c).1.toD<=szD h.toD+1+szD c.toD:=by
 unfold gH;cases gy h.cells 0 with
 |some k=>
  have:=wT h k c;show szD (eG h k c).toD<=_;omega
 |none=>
  show szD (Hp.toD {h with cells:=h.cells++[c]})<=_;rw[kD,kD h];simp only[aY,aI,Aj,br,bL,gv,bt];omega
theorem UQ (h:Hp) (l:List Int) (hl:l.length=h.slots.length):szD (Hp.toD {h with slots:=l})=szD h.toD:=by rw[kD,kD h];show _+l.length=_;rw[hl]
theorem Su (h:Hp) (n:Int):szD (Hp.toD {h with copies:=n})=szD h.toD:=by rw[kD,kD h]
theorem Ld (h:Hp) (s:Str) (k:Int):szD (fd h s k).toD<=szD h.toD+2+s.length:=by
 unfold fd;split
 ·have:=PA 5 {h with slots:=h.slots.set (ix h.names s 0).toNat k} (slotD h s);rw[UQ h _ (da ..)]at this;omega
 ·rw[kD,kD h];simp only[aY,aI,Aj,br,bL,gv,szD,bt];omega
theorem UP:∀(f:Nat) (h:Hp) (v:Vec),szD (fL f h v).1.toD<=szD h.toD+2*szD v.toD+1
 |0,h,v=>by show szD h.toD<=_;omega
 |f+1,h,v=>by
  have iU:∀(l:List Vec) (s:Hp × List Int),szD (l.foldl (js (fL f)) s).1.toD<=szD s.1.toD+2*gv (l.map Vec.toD)+l.length/\(l.foldl (js (fL f)) s).2.length=s.2.length+l.length:=by
   intro l
   induction l with
   |nil=>intro s;simp [gv]
   |cons p t ih=>
    intro s;rw[bC];obtain⟨i1,i2⟩:=ih (js (fL f) s p);have h1:=UP f s.1 p;have e1:(js (fL f) s p).1=(fL f s.1 p).1:=rfl;have e2:(js (fL f) s p).2.length=s.2.length+1:=by show (s.2++[_]).length=_;simp
    rw[e1]at i1;rw[e2]at i2;simp only[br,gv,bU];omega
  obtain⟨k1,k2⟩:=iU v.parts (h,[]);have t1:=QU (v.parts.foldl (js (fL f)) (h,[])).1 ⟨1,noParts v,(v.parts.foldl (js (fL f)) (h,[])).2⟩;rw[Bu]at t1;have e:=go v;have e':=go (noParts v);simp only[szD,au,bL,bf,gv]at e e';rw[fL];simp only[bf]at k1 k2 t1;omega
theorem UO (h:Hp) (s:Str):szD (iz h s).1.toD<=szD h.toD+3+s.length+szD (celD h (slotD h s)).toD:=by
 unfold iz;split
 ·show szD h.toD<=_;omega
 ·have h1:=QT (celD h (slotD h s)).parts h;have h2:=QU ((celD h (slotD h s)).parts.foldl incS h) ⟨1,(celD h (slotD h s)).value,(celD h (slotD h s)).parts⟩;have h3:=Ld (ownH h s).1 s (ownH h s).2;have e:(gH ((celD h (slotD h s)).parts.foldl incS h) ⟨1,(celD h (slotD h s)).value,(celD h (slotD h s)).parts⟩).1=(ownH h s).1:=rfl;rw[e,Bu]at h2;rw[Bu (celD h (slotD h s))];show szD (Hp.toD {fd (ownH h s).1 s (ownH h s).2 with copies:=_})<=_;rw[Su];simp only at h2;omega
theorem BD (h:isVec v=true):szD (noParts v).toD<=10000:=by have F:=jf h;have h1:=(i6 h).1;rw[okD]at h1;simp only[ax,aV]at h1;have B:=F.vb (B:=1000000000) (λx hx=>by have h2:=AZ (h1.2 x hx);omega);have:VB (noParts v) 0:=⟨B.i,by simp,B.n,B.c,B.l⟩;have:=this.sz;omega
theorem Mem.inHB (H:HB w g h F):Mem prog w (g::F) w [.bx g h.toD 28]:=Gd
theorem Mem.outHB {w':World} (M:Mem prog w (g::F) w' [.bx g h'.toD 28]):∃F',HB w' g h' F'/\Sub w.heap.size F F'/\Mod (g::F) w w':=Ga
theorem ES {α:Type}:∀{l:List α} {k:Nat} {x:α},l[k]?=some x->l.set k x=l
 |[],_,_,h=>by simp at h
 |a::t,0,x,h=>by simp at h;subst h;rfl
 |a::t,k+1,x,h=>by simp at h;rw[be,ES h]
theorem Mem.cntAt {c k:Nat} (M:Mem prog w0 X w (.ow (.sl (l.map Cel.toD)) 24 [.slice (some ⟨g,0,none⟩) n c]::R)) (hk:l[k]?=some x):w.cell? ⟨g,k*10,none⟩=some (.int .i64 x.count):=by
 have hr:=M.rp 0 rfl;have hl:=(ef hr).1;rw[au]at hl;have WA:k<n:=sa;obtain⟨b,off,y,_,_,_,_,_,_,_,_,_,_,_,_,_,_,_,_,_,_,e,-,hy,-,h0,-⟩:=lm hr WA;injection e with e;injection e with e1 e2;subst e1 e2;have:=hy.symm.trans hk;injection this with this;subst this
 rwa [bI]at h0
theorem Mem.takeCall {v:Value} {cc:List Value} (M:Mem prog w0 X w (.bx g h.toD 28:: .ow c.toD 43 cc::R))
 (hc:∀F Fc,HB w g h F->own prog w c.toD 43 Fc cc->(∀y∈Fc,y ∉ g::F)->Fc.Nodup->Calls prog f args w λe w'=>e= .returned v/\∃F',HB w' g h' F'/\(∀y∈F',y∈F\/y∈Fc\/w.heap.size<=y)/\Mod (g::F) w w')
 (hK:∀w',Mem prog w0 X w' (.bx g h'.toD 28::R)->Ψ (.returned v) w'):Calls prog f args w Ψ:=by
 obtain⟨FF,s1,n1,agm⟩:=Mem.split [_,_] M;obtain⟨G,Fc,rfl,⟨cs,F,rfl,kB,o⟩,s2⟩:=fJ.1 s1;have oc:=iQ.1 s2;obtain⟨m1,m2,m3⟩:=aE.1 n1;refine(hc F Fc ⟨cs,kB,o,m1⟩ oc (λy hy hm=>m3 y hm y hy rfl) m2).mono ?_;rintro e w' ⟨rfl,F',⟨cs',IG,o',nd'⟩,ahU,Pu⟩;refine hK w' (agm w' [_] (g::F') (iQ.2 ⟨cs',F',rfl,IG,o'⟩) nd' (λy hy=>?_) (Pu.mono λy hy=>aG.2 (.inl hy)));rcases aX.1 hy with rfl|hy
 ·exact .inl (aG.2 (.inl dR))
 ·rcases ahU y hy with h1|h1|h1
  ·exact .inl (aG.2 (.inl kw))
  ·exact .inl (aG.2 (.inr h1))
  ·exact .inr h1
theorem Q9 (h:Hp) (s:Str) (g:Nat) (F:List Nat) (w:World) (HI:HB w g h F) (JC:s.length<=maxLen) (jV:OwnOK h s):
 Calls prog 44 #[.pointer (some ⟨g,0,none⟩),sv s] w λe w'=>e= .returned (.int .i64 (iz h s).2)/\∃F',HB w' g (iz h s).1 F'/\Sub w.heap.size F F'/\Mod (g::F) w w':=by
 obtain⟨i,x,XP,hil,qD,ld⟩:=kU jV.inr;have zM:=jV.more;rw[ld]at zM;have mC:iz h s=if x.count=1 then (h,(i:Int)) else ({fd (ownH h s).1 s (ownH h s).2 with copies:=wrap64 (h.copies+1)},(ownH h s).2):=by unfold iz;rw[ld,XP]
 have hoh:ownH h s=gH (x.parts.foldl incS h) ⟨1,x.value,x.parts⟩:=by unfold ownH;rw[ld]
 have hci:=aa (show cellD h s=(i:Int) by unfold cellD;rw[aN jV.has,XP]);have gK:=aa jV.len;have hx:=aa qD;have hs:=aa JC;have hnm:=jV.nm;have i0:(0:Int)<=(i:Int):=dP;have i1:(i:Int)<(h.cells.length:Int):=dP;have M0:=Mem.inHB HI;obtain⟨Il,M0⟩:=M0.bxOpen;obtain⟨Ah,ch,An,cn,Ak,cs,rfl,To,M0⟩:=Mem.openHeap (h:=h) (M0.pull 1 rfl);by_cases hone:x.count=1
 ·have q1:(x.count==1)=true:=by simp [hone]
  rw[mC,aN hone];clear mC hone zM jV XP ld qD JC hoh;have M:=M0.up [];go_enter func44,ntmps44;refine Ra M [] (Sq ?_);refine Sb M [3] 4 ?_;refine Ij M 0 (λ_=> .int .i64 (i:Nat)) (λ_=>[]) (λK Z hK=>GV) (λJ1 wv M=>?_);refine Sb M [] 1 (Sz (ae ?_));obtain⟨gc,Nb⟩:=(M.pull 0 rfl).some0 underlying24 dP;subst Nb;refine Sq (Sb M [3] 7 ?_);refine So (.int .i64 x.count) (λK Z hK=>uB) ?_;refine Sb M [] 1 (Sz ?_);refine ct ?_;refine Ra M [] (aO (fI ?_));refine vQ results44 ?_;replace M:=Mem.bxShut ((Mem.joinHeap (h:=h) M To).pull 1 rfl);replace M:=M.up [];exact⟨rfl,Mem.outHB (M.sel [0] dQ)⟩
 have q1:(x.count==1)=false:=by simp [hone]
 obtain⟨rk,Lc,mD,Nd,DD,sY⟩:=zM.resolve_left hone;rw[mC,aH hone];rw[hoh]at sY ⊢;obtain⟨h0,Xl⟩:∃z,x.parts.foldl incS h=z:=⟨_,rfl⟩;rw[Xl]at DD sY ⊢;have hh0:=aa Xl;have ht:=qd h0 ⟨1,x.value,x.parts⟩;have hf:=nX (f:=incS) tX x.parts h;rw[Xl]at hf;obtain⟨h3,eh3⟩:∃z,(gH h0 ⟨1,x.value,x.parts⟩).1=z:=⟨_,rfl⟩;obtain⟨n,Zl⟩:∃z,(gH h0 ⟨1,x.value,x.parts⟩).2=z:=⟨_,rfl⟩;rw[eh3]at sY ht ⊢;rw[Zl]at sY ⊢;have Uw:h3.names.length=h3.slots.length:=by rw[ht.1,ht.2.1,hf.1,hf.2.1];exact jV.len
 have abq:(h3.names.length:Int)<=1073741824:=by rw[ht.1,hf.1];exact hnm
 have OE:(Lit.int .i64 n).wf=true:=FT;have tT:=aa (show ({fd h3 s n with copies:=wrap64 (h.copies+1)}:Hp)={fd h3 s n with copies:=IntKind.i64.wrap ((fd h3 s n).copies+1)} by rw[KH,ht.2.2,hf.2.2];simp only[wrap64,IntKind.wrap_i64]);have wcq:(Lit.int .i64 (IntKind.i64.wrap ((fd h3 s n).copies+1))).wf=true:=kP.2 (by rw[IntKind.wrap_i64];constructor<;>omega);have hh3:=aa eh3;have hn3:=aa Zl;have Pr:=aa Nd;have R8:=aa DD;have hrel:=aa (λ_:hasN h3 s=true=>sY);have hsv:=aa Lc;clear mC hone zM jV XP ld qD JC hoh rk Lc Nd DD sY Xl ht hf eh3 Zl;have M:=M0.up [];go_enter func44,ntmps44;refine Ra M [] (Sq ?_);refine Sb M [3] 4 ?_;refine Ij M 0 (λ_=> .int .i64 (i:Nat)) (λ_=>[]) (λK Z hK=>GV) (λJ1 wv M=>?_);refine Sb M [] 1 (Sz (ae ?_));obtain⟨gc,Nb⟩:=(M.pull 0 rfl).some0 underlying24 dP;subst Nb;refine Sq (Sb M [3] 7 ?_);refine So (.int .i64 x.count) (λK Z hK=>uB) ?_;refine Sb M [] 1 (Sz ?_);refine gk ?_;obtain⟨Ei,ui,Ep,up,Ex,ux,Ec,uc,El,ul,Ez,uz,pre,post,ca,cb,iZ,-,wx1,Qp,Qq,Qr,M,jO⟩:=Mem.cellOut M hx.out;refine mL (M.sel [0,1,2,3,4,5,6,11,7,8,9,10] dQ) [none,none,none,none,none,none,none,none] [.o g 0,.p 0,.p 0,.l 7 0,.i (i:Nat),.o gc (i*10),.o gc (i*10+1),.v (.c (.agg #[x.value.kind,.slice Ei x.value.items.length ui,.slice Ep x.value.parts.length up,.slice Ex x.value.names.length ux,.slice Ec x.value.cls.length uc,.slice El x.value.levels.length ul,x.value.code,x.value.env])),.v (vV 8 x.value.kind x.value.items.length x.value.parts.length x.value.names.length x.value.cls.length x.value.levels.length x.value.code x.value.env),.v (.e 9 (λY6=> .slice (some ⟨Y6.b,0,none⟩) 0 0)),.p 7,.p 0,.p 0,.p 9,.p 9,.p 9,.o gc (i*10+9),.v (.c (.slice Ez x.parts.length uz)),.v (vS 18 x.parts.length),.v (.e2 8 18 (λHq Wh=> .agg #[.int .i64 1,x.value.kind,.slice ((Hq.A 1)) x.value.items.length ((Hq.C 1)),.slice ((Hq.A 2)) x.value.parts.length ((Hq.C 2)),.slice ((Hq.A 3)) x.value.names.length ((Hq.C 3)),.slice ((Hq.A 4)) x.value.cls.length ((Hq.C 4)),.slice ((Hq.A 5)) x.value.levels.length ((Hq.C 5)),x.value.code,x.value.env,.slice Wh.a x.parts.length Wh.c])),.q 20 0,.u] [.e 8 none (oV 8 1 (.sl (x.value.items.map Item.toD)) 35 x.value.items.length),.e 8 none (oV 8 2 (.sl (x.value.parts.map Vec.toD)) 36 x.value.parts.length),.e 8 none (oV 8 3 (.sl (x.value.names.map D.s)) 25 x.value.names.length),.e 8 none (oV 8 4 (.sl (x.value.cls.map D.s)) 25 x.value.cls.length),.e 8 none (oV 8 5 (.sl (x.value.levels.map D.s)) 25 x.value.levels.length),.e 9 (some 18) (.e 9 (λY6=> .ow (.sl []) 26 [.slice (some ⟨Y6.b,0,none⟩) 0 0])),.e 18 none (oS 18 (.sl (x.parts.map (D.i .i64))) 26 x.parts.length),.e 20 (some 21) (oB 20 43 [.int .i64 0,.int .i64 0,(),(),(),(),(),.int .i64 0,.int .i64 0,()]),.a 21 none 15 19] [[],[],[],[7],[],[],[],[0],[1,2,3,4,5],[],[],[],[],[7],[],[],[],[0],[6],[],[],[]] [] ?_ ?_
 ·show ∀i,i<22->_;refine On ?_ (tn [15] [16] [] (h:=λγ wv R K M hK=>GI));refine On (On ?_ eh) (kX [15]);refine On ?_ (tn [13] [14] [6] (h:=λγ wv R K M hK=>by
   obtain⟨_,_,_,he,-,-,hrQ,hwQ⟩:=(qy _ _ _ _).1 (M.rp 1 rfl);injection he with he;injection he with e1 e2 e3;subst e1 e2 e3
   exact pO (f:=D.i .i64) mR M rD dU iu sP rfl (.tmp 34) (.tmp 42) rfl rfl Ez x.parts.length uz _ _ rfl hrQ (λy hy w'=>by rw[own];exact⟨rfl,rfl,hwQ y hy⟩) dP eb λA' c' w' M'=>hK (Ov A' c') w' M'))
  refine On ?_ (mW [0] (h:=λγ wv K M hK=>F7));refine On (On (On (On (On (On (On ?_ eB) eh) eh) (e_ [7] 0)) eB) eh) eh;refine On ?_ (tn [] [13] [] (h:=λγ wv R K M hK=>pJ));refine On ?_ (tn [] [8,9,10,11,12] [1,2,3,4,5] (h:=λγ wv R K M hK=>by have hr:=(Mem.joinVec (v:=x.value) M Qp Qq Qr).rp 0 rfl;go_simp;go_at_call 101;exact Xe (jd x.value _ _ hr hsv.out) M hK))
  refine On ?_ (mW [0] (h:=λγ wv K M hK=>FY));exact On (On (On (On (On (On (On Oz eB) eh) eh) (e_ [7] 0)) eB) eh) eh
 intro i7 wv M;replace M:Mem _ _ _ _ [_,_,_,_,_,_,_,_,.ow _ _ _,.ow _ _ _,.ow _ _ _,.ow _ _ _,.ow _ _ _,.ow _ _ _,.bk _ _ [_,_,_,_,_,_,_,_,_,_],_,_,_,_]:=M;replace M:=M.up [16,16,8,8,8,8,8,8,8];replace M:=jO _ _ _ _ x _ _ _ _ _ _ _ _ _ _ _ _ _ _ _ _ _ _ wx1 Qp Qq Qr M;rw[ES hx.out]at M;replace M:=M.up [10,10,2];replace M:=Mem.bxShut ((Mem.joinHeap (h:=h) M To).pull 1 rfl);replace M:=M.up [];refine ae (Ra M [7] (aJ ?_));refine fy (ι:=Nat × Option Addr) [8,49,50,51,52,53,54,55,56,57,58,59,60,61,62,63] (λfu=>match fu with|(j,Aq)=>[(46,.slice Aq x.parts.length (i7 18).c),(48,.int .i64 (j:Nat))]) (λfu=>match fu with|(j,Aq)=>j<=x.parts.length) (λfu=>match fu with|(j,Aq)=>[.bx (g) (Hp.toD ((x.parts.take j).foldl incS h)) 28,.ow (.sl (x.value.items.map Item.toD)) 35 [.slice (((i7 8).A 1)) x.value.items.length (((i7 8).C 1))],.ow (.sl (x.value.parts.map Vec.toD)) 36 [.slice (((i7 8).A 2)) x.value.parts.length (((i7 8).C 2))],.ow (.sl (x.value.names.map D.s)) 25 [.slice (((i7 8).A 3)) x.value.names.length (((i7 8).C 3))],.ow (.sl (x.value.cls.map D.s)) 25 [.slice (((i7 8).A 4)) x.value.cls.length (((i7 8).C 4))],.ow (.sl (x.value.levels.map D.s)) 25 [.slice (((i7 8).A 5)) x.value.levels.length (((i7 8).C 5))],.ow (.sl (x.parts.map (D.i .i64))) 26 [.slice Aq x.parts.length (i7 18).c],.bk ((i7 20).b) 43 [.int .i64 1,x.value.kind,.slice (((i7 8).A 1)) x.value.items.length (((i7 8).C 1)),.slice (((i7 8).A 2)) x.value.parts.length (((i7 8).C 2)),.slice (((i7 8).A 3)) x.value.names.length (((i7 8).C 3)),.slice (((i7 8).A 4)) x.value.cls.length (((i7 8).C 4)),.slice (((i7 8).A 5)) x.value.levels.length (((i7 8).C 5)),x.value.code,x.value.env,.slice Aq x.parts.length (i7 18).c]]) (λfu=>match fu with|(j,Aq)=>x.parts.length - j) (0,(i7 18).a) (by dsimp only;omega) (M.sel [0,1,2,3,4,5,6,7] dQ) ?_;rintro⟨j,Aq⟩ zf2 W2 K2 h2 M vk;try dsimp only at h2 M ⊢
 refine uM ?_;have hj:=h2;refine Ra M [] (ae ?_);refine lW (λhlt=>?_) (λhlt=>?_)
 ·rw[hlt];replace hlt:=aa hlt;have hlj:j<x.parts.length:=iS;obtain⟨p,hp'⟩:∃p,x.parts[j]?=some p:=⟨_,aw hlj⟩;have hp:=aa hp';obtain⟨hin,xe⟩:=qR Pr.out hp';obtain⟨k,y,rfl,Ch,hy',hyd⟩:=kU hin;have hy:=aa hy';rw[hyd]at xe;unfold Xd at xe;have JB:=aa (show ((x.parts.take (j+1)).foldl incS h)=eG ((x.parts.take j).foldl incS h) k (gE y) by rw[rT hp',incS,hyd,aU]);have wyi:(Lit.int .i64 (y.count+1)).wf=true:=kP.2 fP;have k0:(0:Int)<=(k:Int):=dP;have k1:(k:Int)<(((x.parts.take j).foldl incS h).cells.length:Int):=dP;have j0:(0:Int)<=(j:Int):=dP;have j1:(j:Int)<(x.parts.length:Int):=dP;clear hp' hin hy' hyd;refine bd (dV (ae (aJ ?_)));obtain⟨gq,hgq⟩:=(M.pull 6 rfl).some0 underlying26 dP;subst hgq;refine Sq (Sb M [] 1 ?_);replace M:=M.up [6];refine So (.int .i64 (k:Nat)) (λK Z hK=>by have c0:W2.cell? _=some (.int .i64 (k:Nat)):=(M.intAt (k:=j) hp.out).1;clear M;go_simp;exact hK) ?_
  refine Sb M [] 1 (Sz ?_);replace M:=M.up [1];obtain⟨Il,M⟩:=M.bxOpen;obtain⟨Ahb,chb,Anb,cnb,Akb,csb,rfl,Bh,M⟩:=Mem.openHeap (h:=((x.parts.take j).foldl incS h)) (M.pull 1 rfl);replace M:=M.up [];obtain⟨gd,zK⟩:=(M.pull 0 rfl).some0 underlying24 dP;subst zK;obtain⟨Wn,WI,Wp,WK,WS,Y2,Wm,WH,Wo,WJ,Wq,TH,IP,xC,cab,cbb,g_,-,FN,L3,FO,FQ,M,pw⟩:=Mem.cellOut M hy.out;refine Sg (Sh ((M.bl 0 rfl).mid g_) M [11] 11 ?_);refine Sm M g_ (λwv M=>Sy ?_);replace M:=pw _ _ _ _ (gE y) _ _ _ _ _ _ _ _ _ _ _ _ _ _ _ _ _ _ wyi L3 FO FQ M;replace M:=Mem.bxShut ((Mem.joinHeap (h:=(eG ((x.parts.take j).foldl incS h) k (gE y))) M Bh).pull 1 rfl);replace M:=M.up [];rw[<-JB.out]at M;refine fA (dV (Rb M [] (dV ?_)));exact vk (j+1,(some ⟨gq,0,none⟩)) _ _ dU (by(try dsimp only);omega) (by(try dsimp only);omega) (M.sel [0,2,3,4,5,6,1,7] dQ)
 ·rw[hlt];replace hlt:=aa hlt;obtain rfl:j=x.parts.length:=eX;rw[cC,hh0.out]at M;refine bo (es (es (fT (dV ?_))));replace M:=M.up [6,6,6,6,6,6];replace M:=Mem.joinVec (v:=x.value) M Qp Qq Qr;replace M:=Mem.joinCell (x:=(⟨1,x.value,x.parts⟩:Cel)) M (by show (Lit.int .i64 1).wf=true;decide);replace M:=M.up [1];refine Sq (Sb M [2] 2 ?_);refine Ij M 2 (λ_=> .int .i64 n) (λ_=>[.bx (g) (Hp.toD h3) 28]) (λK Z hK=>by go_simp;go_at_call 104;exact M.takeCall (h':=h3) (λF Fc HF oc hd hn=>by rw[<-hn3.out,<-hh3.out];exact Oe _ _ g F Fc _ _ HF oc hd hn R8.out) (λw' M'=>hK (mA 0) w' M')) (λJ2 wv M=>?_)
  refine Sb M [] 1 (Sz (Sq ?_));refine Sb M [] 3 ?_;refine Ij M 1 (λ_=> .tuple #[]) (λ_=>[.bx (g) (Hp.toD (fd h3 s n)) 28]) (λK Z hK=>by go_simp;go_at_call 39;exact M.heapCall (λF HF _=>xL h3 s n g F _ HF hs.out OE Uw abq hrel.out) (λw' M'=>hK (mA 0) w' M')) (λJ3 wv M=>Sz ?_)
  obtain⟨Il,M⟩:=M.bxOpen;obtain⟨Wi,Wu,Wk,Wv,Wj,Bu,rfl,uj,M⟩:=Mem.openHeap (h:=(fd h3 s n)) (M.pull 1 rfl);replace M:=M.up [];refine Sq (Sb M [3] 7 ?_);refine Ss M 3 (λwv M=>Sz ?_);refine Ra M [] (aO ?_);refine vQ results44 ?_;replace M:=Mem.bxShut ((Mem.joinHeap (h:=({(fd h3 s n) with copies:=(IntKind.i64.wrap ((fd h3 s n).copies+1))}:Hp)) M wcq).pull 1 rfl);replace M:=M.up [];rw[tT.out];exact⟨rfl,Mem.outHB (M.sel [0] dQ)⟩
theorem gV {cs:List Value} (hr:rep w B h.toD cs):∃(Ah:Option Addr) (ch:Nat) (An:Option Addr) (cn:Nat) (Ak:Option Addr) (ck:Nat),cs=[.slice Ah h.cells.length ch,.slice An h.names.length cn,.slice Ak h.slots.length ck,.int .i64 h.copies]/\
 rep w B (.sl (h.cells.map Cel.toD)) [.slice Ah h.cells.length ch]/\rep w B (.sl (h.names.map .s)) [.slice An h.names.length cn]/\rep w B (.sl (h.slots.map (.i .i64))) [.slice Ak h.slots.length ck]/\(Lit.int .i64 h.copies).wf=true:=by
 obtain⟨A,n,c,Am,nm,cm,Ak,ns,ca,rfl,rc,rn,rs,wc⟩:=iP hr;have l1:=(ef rc).1;have l2:=(ef rn).1;have l3:=(ef rs).1;rw[au]at l1 l2 l3;subst l1 l2 l3;exact⟨A,c,Am,cm,Ak,ca,rfl,rc,rn,rs,wc⟩
theorem CW {A:Option Addr}{c k:Nat} (h:rep w B (.sl (l.map Cel.toD)) [.slice A n c]) (hk:k<n):
 ∃(b off:Nat) (x:Cel) (Ai:Option Addr) (ci:Nat) (Ap:Option Addr) (cp:Nat) (An:Option Addr) (cn:Nat) (Ac:Option Addr) (cc:Nat) (Al:Option Addr) (cl:Nat) (Aq:Option Addr) (cq:Nat),A=some ⟨b,off,none⟩/\b<B/\l[k]?=some x/\
  rep w B x.value.toD [x.value.kind,.slice Ai x.value.items.length ci,.slice Ap x.value.parts.length cp,.slice An x.value.names.length cn,.slice Ac x.value.cls.length cc,.slice Al x.value.levels.length cl,x.value.code,x.value.env]/\rep w B (.sl (x.parts.map (.i .i64))) [.slice Aq x.parts.length cq]/\(Lit.int .i64 x.count).wf=true/\
  w.cell? ⟨b,off+k*10,none⟩=some (.int .i64 x.count)/\w.cell? ⟨b,off+k*10+1,none⟩=some (.int .i64 x.value.kind)/\w.cell? ⟨b,off+k*10+2,none⟩=some (.slice Ai x.value.items.length ci)/\w.cell? ⟨b,off+k*10+3,none⟩=some (.slice Ap x.value.parts.length cp)/\w.cell? ⟨b,off+k*10+4,none⟩=some (.slice An x.value.names.length cn)/\w.cell? ⟨b,off+k*10+5,none⟩=some (.slice Ac x.value.cls.length cc)/\w.cell? ⟨b,off+k*10+6,none⟩=some (.slice Al x.value.levels.length cl)/\w.cell? ⟨b,off+k*10+7,none⟩=some (.int .i64 x.value.code)/\w.cell? ⟨b,off+k*10+8,none⟩=some (.int .i64 x.value.env)/\w.cell? ⟨b,off+k*10+9,none⟩=some (.slice Aq x.parts.length cq):=by
 obtain⟨b,off,x,Ei,ui,vi,Ep,up,vp,Ex,ux,vx,Ec,uc,vc,El,ul,vl,Ez,uq,vq,h1,h2,h3,hr,hc⟩:=lm h hk;obtain⟨_,_,_,_,_,_,_,_,_,_,_,_,_,_,_,_,_,_,he,wc,rv,rq⟩:=i8 hr;simp only[bF,bG,dy,cO]at he;obtain⟨⟨rfl,rfl,rfl⟩,⟨rfl,rfl,rfl⟩,⟨rfl,rfl,rfl⟩,⟨rfl,rfl,rfl⟩,⟨rfl,rfl,rfl⟩,rfl,rfl,rfl⟩:=he;have lq:=(ef rq).1;rw[au]at lq;subst lq;obtain⟨_,_,_,_,_,_,_,_,_,_,he,-⟩:=d_ rv;simp only[bF,bG,dy,cO]at he;obtain⟨⟨rfl,rfl,rfl⟩,⟨rfl,rfl,rfl⟩,⟨rfl,rfl,rfl⟩,⟨rfl,rfl,rfl⟩,⟨rfl,rfl,rfl⟩⟩:=he;exact⟨b,off,x,_,_,_,_,_,_,_,_,_,_,_,_,h1,h2,h3,rv,rq,wc,hc⟩
theorem wL (h:Hp) (hz:szD h.toD<=4194304) (ca:List Value) (w:World) (hr:rep w w.heap.size h.toD ca):Calls prog 37 #[av ca] w (gM h.toD 28 w):=by
 have kD:=nM h;simp only[szD,au]at kD;obtain⟨Ah,ch,An,cn,Ak,cs,rfl,rc,rn,rs,wc⟩:=gV hr;obtain⟨_,_,_,he,-,-,hrS,hwS⟩:=(qy _ _ _ _).1 rs;injection he with he;injection he with e1 e2 e3;subst e1 e2 e3
 obtain⟨_,_,_,he,-,-,hrN,hwN⟩:=(ls _ _ _ _).1 rn;injection he with he;injection he with e1 e2 e3;subst e1 e2 e3
 have HVP:=aa (show ∀x∈h.cells,True from λ_ _=>bO);clear hr;have M:Mem prog w [] w []:=Mem.start;go_enter func37,ntmps37;refine Sq (Sa M (λJ1 wv M=>?_));refine Sa M (λJ2 wv M=>Sz ?_);refine mL (M.sel [1,0] dQ) [none] [.o (J1.b) 1,.l 0 1,.v (vS 2 h.names.length),.v (.e 3 (λii=> .slice (some ⟨ii.b,0,none⟩) 0 0)),.o (J1.b) 2,.l 0 2,.v (vS 6 h.slots.length),.o (J1.b) 3,.l 0 3,.v (.e2 2 6 (λqB yV=> .agg #[(),.slice qB.a h.names.length qB.c,.slice yV.a h.slots.length yV.c,h.copies])),.q 10 0,.u] [.e 2 none (oS 2 (.sl (h.names.map D.s)) 25 h.names.length),.e 3 (some 6) (.e 3 (λii=> .ow (.sl []) 26 [.slice (some ⟨ii.b,0,none⟩) 0 0])),.e 6 none (oS 6 (.sl (h.slots.map (D.i .i64))) 26 h.slots.length),.e 10 (some 11) (oB 10 28 [(),(),(),.int .i64 0]),.a 11 none 4 9] [[],[0],[],[],[],[0],[],[],[0],[],[],[]] [] ?_ ?_
 ·show ∀i,i<12->_;refine On ?_ (tn [4] [5] [] (h:=λγ wv R K M hK=>uC));refine On (On (On (On ?_ eh) (e_ [0] 3)) eh) (kX [4]);refine On ?_ (tn [2] [3] [] (h:=λγ wv R K M hK=>by exact pO (f:=D.i .i64) mR M rD dU iu sP rfl (.tmp 9) (.tmp 11) rfl rfl Ak h.slots.length cs _ _ rfl (hrS.below M.bel) (λy hy w'=>by rw[own];exact⟨rfl,rfl,hwS y hy⟩) dP eb λA' c' w' M'=>hK (Ov A' c') w' M'))
  refine On (On ?_ eh) (e_ [0] 2);refine On ?_ (tn [] [2] [] (h:=λγ wv R K M hK=>pJ));refine On ?_ (tn [] [1] [] (h:=λγ wv R K M hK=>by go_simp;go_at_call 100;exact Ik (gJ h.names An _ cn _ (M.arg rn) dP) M hK))
  exact On (On Oz eh) (e_ [0] 1)
 intro i7 wv M;replace M:Mem _ _ _ _ [_,.ow _ _ _,.ow _ _ _,.bk _ _ [_,_,_,_],_]:=M;refine ae (Ra M [0] (aJ ?_));refine fy (ι:=Nat × Option Addr × Nat) [5,20,21,22,23,24,25,26,27,28,29,30,31,32,33,34,35,36,37,38] (λfu=>match fu with|(j,Ao,co)=>[(19,.int .i64 (j:Nat))]) (λfu=>match fu with|(j,Ao,co)=>j<=h.cells.length) (λfu=>match fu with|(j,Ao,co)=>[.ow (.sl ((h.cells.take j).map Cel.toD)) 24 [.slice Ao j co],.bk ((i7 10).b) 28 [.slice Ao j co,.slice (i7 2).a h.names.length (i7 2).c,.slice (i7 6).a h.slots.length (i7 6).c,h.copies],.bk (J1.b) 28 [.slice Ah h.cells.length ch,.slice An h.names.length cn,.slice Ak h.slots.length cs,h.copies],.ow (.sl (h.names.map D.s)) 25 [.slice (i7 2).a h.names.length (i7 2).c],.ow (.sl (h.slots.map (D.i .i64))) 26 [.slice (i7 6).a h.slots.length (i7 6).c],.bk (J2.b) 28 [(),(),(),.int .i64 0]]) (λfu=>match fu with|(j,Ao,co)=>h.cells.length - j) (0,none,0) dP BV ?_;rintro⟨j,Ao,co⟩ zf2 W2 K2 h2 M vk;try dsimp only at h2 M ⊢
 refine uM ?_;refine Ra M [] (ae ?_);refine lW (λhlt=>?_) (λhlt=>?_)
 ·rw[hlt];replace hlt:=aa hlt;have hlj:j<h.cells.length:=eX;obtain⟨bc,off,x,Ei,ui,Ep,up,Ex,ux,Ec,uc,El,ul,Ez,uz,hAh,gD,hx,rv,rq,AC,e0,e1,e2,e3,e4,e5,e6,e7,e8,e9⟩:=CW rc hlj;subst hAh;have hcz:=wI h (j:Int);rw[iI hx]at hcz;have TE:=HVP.out x (aA hx);replace TE:=aa TE;have Lc:szD x.value.toD<=500000000000:=dP;have hxq:x.parts.length<=4194304:=dP;replace hx:=aa hx;obtain⟨_,_,_,he,-,-,hrq,hwq⟩:=(qy _ _ _ _).1 rq;injection he with he;injection he with e11 e12 e13;subst e11 e12 e13
  have j0:(0:Int)<=(j:Int):=dP;have j1:(j:Int)<(h.cells.length:Int):=dP;refine bd (dV (ae (aJ (Sq (Sb M [] 1 ?_)))));refine Sf (show W2.cell? ⟨bc,off+j*10,none⟩=some (.int .i64 x.count)/\W2.cell? ⟨bc,off+j*10+1,none⟩=some (.int .i64 x.value.kind)/\W2.cell? ⟨bc,off+j*10+2,none⟩=some (.slice Ei x.value.items.length ui)/\W2.cell? ⟨bc,off+j*10+3,none⟩=some (.slice Ep x.value.parts.length up)/\W2.cell? ⟨bc,off+j*10+4,none⟩=some (.slice Ex x.value.names.length ux)/\W2.cell? ⟨bc,off+j*10+5,none⟩=some (.slice Ec x.value.cls.length uc)/\W2.cell? ⟨bc,off+j*10+6,none⟩=some (.slice El x.value.levels.length ul)/\W2.cell? ⟨bc,off+j*10+7,none⟩=some (.int .i64 x.value.code)/\W2.cell? ⟨bc,off+j*10+8,none⟩=some (.int .i64 x.value.env)/\W2.cell? ⟨bc,off+j*10+9,none⟩=some (.slice Ez x.parts.length uz) from⟨(M.bel.cell gD).trans e0,(M.bel.cell gD).trans e1,(M.bel.cell gD).trans e2,(M.bel.cell gD).trans e3,(M.bel.cell gD).trans e4,(M.bel.cell gD).trans e5,(M.bel.cell gD).trans e6,(M.bel.cell gD).trans e7,(M.bel.cell gD).trans e8,(M.bel.cell gD).trans e9⟩) ?_;refine Sa M (λJ3 wv M=>?_);refine Ss M 0 (λwv M=>Sz ?_);refine CJ M [none,some 13,some 15] [.o ((i7 10).b) 0,.l 2 0,.o (J3.b) 0,.l 0 0,.o (J3.b) 1,.v (.c (.agg #[x.value.kind,.slice Ei x.value.items.length ui,.slice Ep x.value.parts.length up,.slice Ex x.value.names.length ux,.slice Ec x.value.cls.length uc,.slice El x.value.levels.length ul,x.value.code,x.value.env])),.v (vV 6 x.value.kind x.value.items.length x.value.parts.length x.value.names.length x.value.cls.length x.value.levels.length x.value.code x.value.env),.v (.e 7 (λMg=> .slice (some ⟨Mg.b,0,none⟩) 0 0)),.o (J3.b) 9,.l 0 9,.v (vS 10 x.parts.length),.v (.e2 6 10 (λyV qz=> .agg #[x.count,x.value.kind,.slice ((yV.A 1)) x.value.items.length ((yV.C 1)),.slice ((yV.A 2)) x.value.parts.length ((yV.C 2)),.slice ((yV.A 3)) x.value.names.length ((yV.C 3)),.slice ((yV.A 4)) x.value.cls.length ((yV.C 4)),.slice ((yV.A 5)) x.value.levels.length ((yV.C 5)),x.value.code,x.value.env,.slice qz.a x.parts.length qz.c])),.v (.e 12 (λacp=> .slice (some ⟨acp.b,0,none⟩) 1 1)),.v (vA 13 (j+1)),.p 13,.u] [.e 6 (some 13) (oW 6 (x.value.toD) 38 x.value.kind x.value.items.length x.value.parts.length x.value.names.length x.value.cls.length x.value.levels.length x.value.code x.value.env),.e 7 (some 10) (.e 7 (λMg=> .ow (.sl []) 26 [.slice (some ⟨Mg.b,0,none⟩) 0 0])),.e 10 (some 13) (oS 10 (.sl (x.parts.map (D.i .i64))) 26 x.parts.length),.b 12 none 43 11,.e 13 none (oA 13 (.sl ((h.cells.take j).map Cel.toD++[x.toD])) 24 (j+1)),.s 15 none 2 [(0,vA 13 (j+1))]] [[],[2],[],[0],[],[0],[],[],[],[0],[],[],[],[6],[],[]] [] ?_ ?_
  ·show ∀i,i<16->_;refine On (On ?_ eh) (vI [2] [8] 0);refine On ?_ (tn [1,3,5] [7] [6] (h:=λγ wv R K M hK=>by have M:=(((((M.pull 3 rfl).pull 1 rfl).pull 3 rfl).pull 3 rfl)).joinCell (x:=x) AC;have hl:=List.length_take_le' j h.cells;exact mG (M.pull 1 rfl) Bg dU rfl (.tmp 24) (.tmp 35) rfl rfl rfl rfl eb dP λg c' w' M'=>hK (R3 g c') w' M'))
   refine On (On ?_ eh) (tn [] [6] [] (h:=λγ wv R K M hK=>by go_simp;exact hK (mA wv.heap.size) _ M.all));refine On ?_ (tn [4] [5] [] (h:=λγ wv R K M hK=>by exact pO (f:=D.i .i64) mR M rD dU iu sP rfl (.tmp 30) (.tmp 32) rfl rfl Ez x.parts.length uz _ _ rfl (hrq.below M.bel) (λy hy w'=>by rw[own];exact⟨rfl,rfl,hwq y hy⟩) dP eb λA' c' w' M'=>hK (Ov A' c') w' M'))
   refine On (On ?_ eh) (e_ [0] 9);refine On ?_ (tn [] [4] [] (h:=λγ wv R K M hK=>pJ));refine On ?_ (tn [] [3] [] (h:=λγ wv R K M hK=>by go_simp;go_at_call 101;exact tI (jd x.value _ _ (M.arg rv) Lc) M hK))
   refine On ?_ (mW [0] (h:=λγ wv K M hK=>GK));exact On (On (On (On (On Oz eh) (e_ [2] 0)) eh) (e_ [0] 0)) eh
  intro Wf wv M;replace M:Mem _ _ _ _ [_,.bk _ _ [_,_,_,_,_,_,_,_,_,_],.ow _ _ _,.bk _ _ [_,_,_,_],_,_,_,_]:=M;refine fA (dV (Rb M [] (dV ?_)));exact vk (j+1,((some ⟨(Wf 13).b,0,none⟩)),((Wf 13).c)) _ _ dU (by(try dsimp only);omega) (by(try dsimp only);omega) (by(try dsimp only);rw[eJ hx.out,aI];exact M.sel [2,3,4,5,6,7] dQ)
 ·rw[hlt];replace hlt:=aa hlt;obtain rfl:j=h.cells.length:=eX;rw[cC]at M;refine bo (es (es (fT (dV (Sq (Sb M [1] 1 ?_))))));refine Ss M 5 (λwv M=>Sz (aO ?_));refine kN results37 M 5 ?_;exact((M.sel [0,3,4] dQ).joinHeap (h:=h) wc).retSt
theorem lF (h:Hp) (hz:szD h.toD<=4194304) (rk:∀x∈h.cells,x.value.parts=[]) (ca:List Value) (w:World) (hr:rep w w.heap.size h.toD ca):Calls prog 48 #[av ca] w (gM h.toD 28 w):=by
 have kD:=nM h;simp only[szD,au]at kD;obtain⟨Ah,ch,An,cn,Ak,cs,rfl,rc,rn,rs,wc⟩:=gV hr;obtain⟨_,_,_,he,-,-,hrS,hwS⟩:=(qy _ _ _ _).1 rs;injection he with he;injection he with e1 e2 e3;subst e1 e2 e3
 obtain⟨_,_,_,he,-,-,hrN,hwN⟩:=(ls _ _ _ _).1 rn;injection he with he;injection he with e1 e2 e3;subst e1 e2 e3
 have HVP:=aa (show ∀x∈h.cells,x.value.parts=[] from rk);clear rk hr;have M:Mem prog w [] w []:=Mem.start;go_enter func48,ntmps48;refine Sq (Sa M (λJ1 wv M=>?_));refine Sa M (λJ2 wv M=>Sz ?_);refine mL (M.sel [1,0] dQ) [none] [.v (.e 0 (λχ0=> .slice (some ⟨χ0.b,0,none⟩) 0 0)),.o (J1.b) 1,.l 0 1,.v (vS 3 h.names.length),.v (.e 4 (λnP=> .slice (some ⟨nP.b,0,none⟩) 0 0)),.o (J1.b) 2,.l 0 2,.v (vS 7 h.slots.length),.o (J1.b) 3,.l 0 3,.v (.e2 3 7 (λii Mg=> .agg #[(),.slice ii.a h.names.length ii.c,.slice Mg.a h.slots.length Mg.c,h.copies])),.q 11 0,.u] [.e 0 (some 3) (.e 0 (λχ0=> .ow (.sl []) 25 [.slice (some ⟨χ0.b,0,none⟩) 0 0])),.e 3 none (oS 3 (.sl (h.names.map D.s)) 25 h.names.length),.e 4 (some 7) (.e 4 (λnP=> .ow (.sl []) 26 [.slice (some ⟨nP.b,0,none⟩) 0 0])),.e 7 none (oS 7 (.sl (h.slots.map (D.i .i64))) 26 h.slots.length),.e 11 (some 12) (oB 11 28 [(),(),(),.int .i64 0]),.a 12 none 5 10] [[],[],[0],[],[],[],[0],[],[],[0],[],[],[]] [] ?_ ?_
 ·show ∀i,i<13->_;refine On ?_ (tn [5] [6] [] (h:=λγ wv R K M hK=>uC));refine On (On (On (On ?_ eh) (e_ [0] 3)) eh) (kX [5]);refine On ?_ (tn [3] [4] [] (h:=λγ wv R K M hK=>by exact pO (f:=D.i .i64) mR M rD dU iu sP rfl (.tmp 10) (.tmp 12) rfl rfl Ak h.slots.length cs _ _ rfl (hrS.below M.bel) (λy hy w'=>by rw[own];exact⟨rfl,rfl,hwS y hy⟩) dP eb λA' c' w' M'=>hK (Ov A' c') w' M'))
  refine On (On ?_ eh) (e_ [0] 2);refine On ?_ (tn [] [3] [] (h:=λγ wv R K M hK=>pJ));refine On ?_ (tn [1] [2] [] (h:=λγ wv R K M hK=>by exact pO (f:=D.s) encS M jm dU gW iK rfl (.tmp 6) (.tmp 8) rfl rfl An h.names.length cn _ _ rfl (hrN.below M.bel) (λy hy w'=>by rw[own];exact⟨rfl,rfl,hwN y hy⟩) dP eb λA' c' w' M'=>hK (Ov A' c') w' M'))
  refine On (On ?_ eh) (e_ [0] 1);refine On ?_ (tn [] [1] [] (h:=λγ wv R K M hK=>yE));exact Oz
 intro i7 wv M;replace M:Mem _ _ _ _ [_,.ow _ _ _,.ow _ _ _,.bk _ _ [_,_,_,_],_]:=M;refine ae (Ra M [] (aJ ?_));refine fy (ι:=Nat × Option Addr × Nat) [5,17,18,19,20,21,22,23,24,25,26,27,28,29,30,31,32,33,34,35,36,37,38,39,40,41,42,43] (λfu=>match fu with|(j,Ao,co)=>[(4,.int .i64 (j:Nat))]) (λfu=>match fu with|(j,Ao,co)=>j<=h.cells.length) (λfu=>match fu with|(j,Ao,co)=>[.ow (.sl ((h.cells.take j).map Cel.toD)) 24 [.slice Ao j co],.bk ((i7 11).b) 28 [.slice Ao j co,.slice (i7 3).a h.names.length (i7 3).c,.slice (i7 7).a h.slots.length (i7 7).c,h.copies],.bk (J1.b) 28 [.slice Ah h.cells.length ch,.slice An h.names.length cn,.slice Ak h.slots.length cs,h.copies],.ow (.sl (h.names.map D.s)) 25 [.slice (i7 3).a h.names.length (i7 3).c],.ow (.sl (h.slots.map (D.i .i64))) 26 [.slice (i7 7).a h.slots.length (i7 7).c],.bk (J2.b) 28 [(),(),(),.int .i64 0]]) (λfu=>match fu with|(j,Ao,co)=>h.cells.length - j) (0,none,0) dP BV ?_;rintro⟨j,Ao,co⟩ zf2 W2 K2 h2 M vk;try dsimp only at h2 M ⊢
 refine uM ?_;refine ae (Ra M [2] ?_);refine lW (λhlt=>?_) (λhlt=>?_)
 ·rw[hlt];replace hlt:=aa hlt;have hlj:j<h.cells.length:=eX;obtain⟨bc,off,x,Ei,ui,Ep,up,Ex,ux,Ec,uc,El,ul,Ez,uz,hAh,gD,hx,rv,rq,AC,e0,e1,e2,e3,e4,e5,e6,e7,e8,e9⟩:=CW rc hlj;subst hAh;have hcz:=wI h (j:Int);rw[iI hx]at hcz;have TE:=HVP.out x (aA hx);replace TE:=aa TE;have Lc:szD x.value.toD<=500000000000:=dP;have hxq:x.parts.length<=4194304:=dP;replace hx:=aa hx;obtain⟨_,_,_,he,-,-,hrq,hwq⟩:=(qy _ _ _ _).1 rq;injection he with he;injection he with e11 e12 e13;subst e11 e12 e13
  have j0:(0:Int)<=(j:Int):=dP;have j1:(j:Int)<(h.cells.length:Int):=dP;refine bd (dV (ae (aJ (Sq (Sb M [2] 4 ?_)))));refine Sf (show W2.cell? ⟨bc,off+j*10,none⟩=some (.int .i64 x.count)/\W2.cell? ⟨bc,off+j*10+1,none⟩=some (.int .i64 x.value.kind)/\W2.cell? ⟨bc,off+j*10+2,none⟩=some (.slice Ei x.value.items.length ui)/\W2.cell? ⟨bc,off+j*10+3,none⟩=some (.slice Ep x.value.parts.length up)/\W2.cell? ⟨bc,off+j*10+4,none⟩=some (.slice Ex x.value.names.length ux)/\W2.cell? ⟨bc,off+j*10+5,none⟩=some (.slice Ec x.value.cls.length uc)/\W2.cell? ⟨bc,off+j*10+6,none⟩=some (.slice El x.value.levels.length ul)/\W2.cell? ⟨bc,off+j*10+7,none⟩=some (.int .i64 x.value.code)/\W2.cell? ⟨bc,off+j*10+8,none⟩=some (.int .i64 x.value.env)/\W2.cell? ⟨bc,off+j*10+9,none⟩=some (.slice Ez x.parts.length uz) from⟨(M.bel.cell gD).trans e0,(M.bel.cell gD).trans e1,(M.bel.cell gD).trans e2,(M.bel.cell gD).trans e3,(M.bel.cell gD).trans e4,(M.bel.cell gD).trans e5,(M.bel.cell gD).trans e6,(M.bel.cell gD).trans e7,(M.bel.cell gD).trans e8,(M.bel.cell gD).trans e9⟩) ?_;refine Sa M (λJ3 wv M=>?_);refine Ss M 0 (λwv M=>Sz ?_);refine CJ M [none,some 13,some 15] [.o ((i7 11).b) 0,.l 2 0,.o (J3.b) 0,.l 0 0,.o (J3.b) 1,.v (.c (.agg #[x.value.kind,.slice Ei x.value.items.length ui,.slice Ep x.value.parts.length up,.slice Ex x.value.names.length ux,.slice Ec x.value.cls.length uc,.slice El x.value.levels.length ul,x.value.code,x.value.env])),.v (vV 6 x.value.kind x.value.items.length x.value.parts.length x.value.names.length x.value.cls.length x.value.levels.length x.value.code x.value.env),.v (.e 7 (λMg=> .slice (some ⟨Mg.b,0,none⟩) 0 0)),.o (J3.b) 9,.l 0 9,.v (vS 10 x.parts.length),.v (.e2 6 10 (λyV qz=> .agg #[x.count,x.value.kind,.slice ((yV.A 1)) x.value.items.length ((yV.C 1)),.slice ((yV.A 2)) x.value.parts.length ((yV.C 2)),.slice ((yV.A 3)) x.value.names.length ((yV.C 3)),.slice ((yV.A 4)) x.value.cls.length ((yV.C 4)),.slice ((yV.A 5)) x.value.levels.length ((yV.C 5)),x.value.code,x.value.env,.slice qz.a x.parts.length qz.c])),.v (.e 12 (λacp=> .slice (some ⟨acp.b,0,none⟩) 1 1)),.v (vA 13 (j+1)),.p 13,.u] [.e 6 (some 13) (oW 6 (x.value.toD) 38 x.value.kind x.value.items.length x.value.parts.length x.value.names.length x.value.cls.length x.value.levels.length x.value.code x.value.env),.e 7 (some 10) (.e 7 (λMg=> .ow (.sl []) 26 [.slice (some ⟨Mg.b,0,none⟩) 0 0])),.e 10 (some 13) (oS 10 (.sl (x.parts.map (D.i .i64))) 26 x.parts.length),.b 12 none 43 11,.e 13 none (oA 13 (.sl ((h.cells.take j).map Cel.toD++[x.toD])) 24 (j+1)),.s 15 none 2 [(0,vA 13 (j+1))]] [[],[2],[],[0],[],[0],[],[],[],[0],[],[],[],[6],[],[]] [] ?_ ?_
  ·show ∀i,i<16->_;refine On (On ?_ eh) (vI [2] [8] 0);refine On ?_ (tn [1,3,5] [7] [6] (h:=λγ wv R K M hK=>by have M:=(((((M.pull 3 rfl).pull 1 rfl).pull 3 rfl).pull 3 rfl)).joinCell (x:=x) AC;have hl:=List.length_take_le' j h.cells;exact mG (M.pull 1 rfl) Bg dU rfl (.tmp 30) (.tmp 41) rfl rfl rfl rfl eb dP λg c' w' M'=>hK (R3 g c') w' M'))
   refine On (On ?_ eh) (tn [] [6] [] (h:=λγ wv R K M hK=>by go_simp;exact hK (mA wv.heap.size) _ M.all));refine On ?_ (tn [4] [5] [] (h:=λγ wv R K M hK=>by exact pO (f:=D.i .i64) mR M rD dU iu sP rfl (.tmp 36) (.tmp 38) rfl rfl Ez x.parts.length uz _ _ rfl (hrq.below M.bel) (λy hy w'=>by rw[own];exact⟨rfl,rfl,hwq y hy⟩) dP eb λA' c' w' M'=>hK (Ov A' c') w' M'))
   refine On (On ?_ eh) (e_ [0] 9);refine On ?_ (tn [] [4] [] (h:=λγ wv R K M hK=>pJ));refine On ?_ (tn [] [3] [] (h:=λγ wv R K M hK=>by go_simp;go_at_call 56;exact tI (tZ x.value TE.out _ _ (M.arg rv) Lc) M hK))
   refine On ?_ (mW [0] (h:=λγ wv K M hK=>GK));exact On (On (On (On (On Oz eh) (e_ [2] 0)) eh) (e_ [0] 0)) eh
  intro Wf wv M;replace M:Mem _ _ _ _ [_,.bk _ _ [_,_,_,_,_,_,_,_,_,_],.ow _ _ _,.bk _ _ [_,_,_,_],_,_,_,_]:=M;refine fA (dV (Rb M [] (dV ?_)));exact vk (j+1,((some ⟨(Wf 13).b,0,none⟩)),((Wf 13).c)) _ _ dU (by(try dsimp only);omega) (by(try dsimp only);omega) (by(try dsimp only);rw[eJ hx.out,aI];exact M.sel [2,3,4,5,6,7] dQ)
 ·rw[hlt];replace hlt:=aa hlt;obtain rfl:j=h.cells.length:=eX;rw[cC]at M;refine bo (es (es (fT (dV (Sq (Sb M [1] 1 ?_))))));refine Ss M 5 (λwv M=>Sz (aO ?_));refine kN results48 M 5 ?_;exact((M.sel [0,3,4] dQ).joinHeap (h:=h) wc).retSt
open Go.ChangeShapes Go.WideShapes Go.Deep Go.RowKit
theorem aeN:ownKnob prog.godebug=none:=dU
theorem Q1:laidOutB prog=true:=dU
section
variable {H:Type} {enc:TypeId × Value->H} {P:Program} {w:World} {base:Nat} {V0:Nat->Bool} {abd:Bool}
theorem O1 {w:World} {a:Addr} {u:Value} (h:w.cell? (a.add 0)=some u):∃b off,a=⟨b,off,none⟩/\b<w.heap.size:=by
 have h0:w.cell? a=some u:=by simpa [Addr.add]using h
 obtain⟨b,off,spot⟩:=a;have:=World.cell?_spot h0;simp at this;subst this;exact⟨b,off,rfl,World.block_lt_of_cell? w _ h0⟩
theorem Ja (b off n:Nat):(⟨b,off,none⟩:Addr).add n=⟨b,off+n,none⟩:=by unfold Addr.add;by_cases h:n=0<;>simp [h]
end
open Go.ChangeShapes Go.WideShapes Go.Deep Go.RowKit
mutual
def rK (P:Program):D->TypeId->Prop
 | .i k _,t=>P.underlying t=some (.int k)
 | .b _,t=>P.underlying t=some .bool
 | .s _,t=>P.underlying t=some .string
 | .st fs,t=>∃KW:Array Field,P.underlying t=some (.struct KW)/\Cj P fs (KW.toList.map Field.type)
 | .sl xs,t=>∃e,P.underlying t=some (.slice e)/\EU P xs e
def Cj (P:Program):List D->List TypeId->Prop
 |[],ts=>ts=[]
 |x::t,ts=>∃t1 t2,ts=t1::t2/\rK P x t1/\Cj P t t2
def EU (P:Program):List D->TypeId->Prop
 |[],_=>True
 |x::t,e=>rK P x e/\EU P t e
end
def Lj (P:Program) (S:List TypeId):List Field->Nat->Option Nat
 |[],off=>some off
 |f::t,off=>if f.offset==off&&S.contains f.type then Lj P S t (off+P.cellsOf f.type) else none
def Uk (P:Program) (S:List TypeId) (t:TypeId):Bool:=
 match P.underlying t with
 |some (.int _)=>true
 |some .bool=>true
 |some .string=>true
 |some (.slice e)=>S.contains e&&decide (1<=P.cellsOf e)
 |some (.struct fs)=>Lj P S fs.toList 0==some (P.cellsOf t)
 |_=>false
section
variable {H:Type} {enc:TypeId × Value->H} {P:Program} {w:World} {base:Nat} {V0:Nat->Bool} {abd:Bool}
theorem My {α:Type} {n:Nat} {p:Nat->α->Prop} (h:∀i,i<n->∃x,p i x):∃l:List α,l.length=n/\∀(i:Nat) x,l[i]?=some x->p i x:=by
 induction n with
 |zero=>exact⟨[],rfl,by simp⟩
 |succ n ih=>
  obtain⟨l,hl,hp⟩:=ih (λi hi=>h i dP);obtain⟨x,hx⟩:=h n dP;refine⟨l++[x],by simp [hl],λi y hy=>?_⟩;rcases Nat.lt_trichotomy i n with hi|hi|hi
  ·rw[cY dP]at hy;exact hp i y hy
  ·subst hi;rw[cV dP,hl]at hy;simp at hy;subst hy;exact hx
  ·rw[cV dP]at hy;have:i - l.length=(i - l.length - 1)+1:=dP;rw[this]at hy;simp at hy
theorem Ro {P:Program} {e:TypeId}:∀{l:List D},(∀x∈l,rK P x e)->EU P l e
 |[],_=>by simp [EU]
 |x::t,h=>by rw[EU];exact⟨h x aT,Ro λy hy=>h y (aP _ hy)⟩
theorem BG {S:List TypeId} {Q:TypeId->List Value->Prop} (wS:∀t cs,S.contains t=true->Q t cs->∃d,rep w w.heap.size d cs/\rK P d t):
 ∀(fs:List Field) (cs:List Value) (off tot:Nat),Lj P S fs off=some tot->cs.length=tot->off<=tot->(∀f∈fs,Q f.type ((cs.drop f.offset).take (P.cellsOf f.type)))->
  ∃(ds:List D) (css:List (List Value)),cs.drop off=css.flatten/\gb w w.heap.size ds css/\Cj P ds (fs.map Field.type)
 |[],cs,off,tot,hl,hc,_,_=>by simp [Lj]at hl;exact⟨[],[],by rw[cM dP];rfl,by rw[gb],by simp [Cj]⟩
 |f::t,cs,off,tot,hl,hc,ho,hq=>by
  rw[Lj]at hl;split at hl
  ·rename_i hh
   rw[ax]at hh;have ZC:f.offset=off:=by simpa using hh.1
   obtain⟨d,hd,hs⟩:=wS f.type _ hh.2 (hq f aT);rw[ZC]at hd;by_cases hle:off+P.cellsOf f.type<=tot
   ·obtain⟨ds,css,h1,h2,h3⟩:=BG wS t cs _ tot hl hc hle (λg hg=>hq g (aP _ hg));refine⟨d::ds,_::css,?_,jW.2 ⟨hd,h2⟩,?_⟩
    ·rw[List.flatten_cons,<-h1,<-List.drop_drop,cA]
    ·rw[br,Cj];exact⟨_,_,rfl,hs,h3⟩
   ·exfalso;have:∀(l:List Field) (o T:Nat),Lj P S l o=some T->o<=T:=by
     intro l
     induction l with
     |nil=>intro o T h;simp [Lj]at h;omega
     |cons a l ih=>intro o T h;rw[Lj]at h;split at h;have:=ih _ _ h;omega;cases h
    exact hle (this _ _ _ hl)
  ·cases hl
theorem JW {S:List TypeId} (hS:S.all (Uk P S)=true):∀(mS:Nat) (t:TypeId) (cs:List Value) (x:DataW H × List MemPlace),S.contains t=true->
 DataW.trod enc P w base V0 abd mS t cs=some x->∃d,rep w w.heap.size d cs/\rK P d t:=by
 intro mS
 induction mS with
 |zero=>intro t cs x _ h;simp [DataW.trod]at h
 |succ mS ih=>
  intro t cs x ht h;have hg:Uk P S t=true:=by rw[aV]at hS;exact hS t (by simpa using ht)
  unfold Uk at hg;split at hg
  ·rename_i hu
   obtain⟨n,h1,_,h2⟩:=DataW.trod_int hu h;exact⟨.i _ n,by rw[rep];exact⟨h1,h2⟩,by rw[rK];exact hu⟩
  ·rename_i hu
   obtain⟨b,h1,_⟩:=DataW.trod_bool hu h;exact⟨.b b,by rw[rep];exact h1,by rw[rK];exact hu⟩
  ·rename_i hu
   obtain⟨s,h1,_,h2⟩:=DataW.trod_string hu h;obtain⟨z,rfl⟩:=YS s;exact⟨.s z,by rw[rep];exact⟨h1,h2⟩,by rw[rK];exact hu⟩
  ·rename_i e hu
   rw[ax]at hg;have he1:1<=P.cellsOf e:=cD hg.2;rcases DataW.trod_slice hu h with ⟨h1,_⟩|⟨a,len,cap,Zk,rest,n,hn,h1,_,hb,hl,hm,gK,hel,_⟩
   ·exact⟨.sl [],by rw[rep];exact⟨none,0,0,1,[],h1,by omega,by unfold maxLen;omega,Reads.nil_,by simp [gb]⟩,by rw[rK];exact⟨e,hu,by simp [EU]⟩⟩
   ·obtain rfl:mS=n:=dP;have ahP:∀i,i<len->∃r:Row (P.cellsOf e) × D,(∀j,j<P.cellsOf e->w.cell? ((a.add (i*P.cellsOf e)).add j)=r.1.v[j]?)/\rep w w.heap.size r.2 r.1.v/\rK P r.2 e:=by intro i hi;have h2:=hel i hi;have h3:Zk[i]?=some Zk[i]:=aw dP;rw[h3,Option.bind_eq_some_iff]at h2;obtain⟨cs',h4,h5⟩:=h2;obtain⟨_,h6,h7⟩:=World.cells?_some h4;obtain⟨d,h8,h9⟩:=ih e cs' _ hg.1 h5;exact⟨(⟨cs',h6⟩,d),h7,h8,h9⟩
    obtain⟨l,kO,hlp⟩:=My ahP;refine⟨.sl (l.map (·.2)),?_,?_⟩
    ·rw[rep];refine⟨some a,len,cap,P.cellsOf e,l.map (·.1),h1,hl,hm,⟨by simpa using kO,λh0=>?_⟩,LA dR λk d cs hd hc=>?_⟩
     ·have hx0:l[0]?=some l[0]:=aw dP;have h00:=(hlp 0 _ hx0).1 0 dP;have hv:∃u,l[0].1.v[0]?=some u:=⟨_,aw (by rw[Row.len];omega)⟩;obtain⟨u,hu'⟩:=hv;rw[hu',dx]at h00;have h01:w.cell? (a.add 0)=some u:=by simpa [Addr.add]using h00
      obtain⟨b,off,rfl,Tv⟩:=O1 h01;refine⟨b,off,rfl,Tv,λk x j u hx hu=>?_⟩;rw[cg]at hx;cases hk:l[k]? with
      |none=>simp [hk]at hx
      |some y=>
       simp [hk]at hx;subst hx;have hj:j<P.cellsOf e:=by have:=(ay.1 hu).1;rwa [Row.len]at this
       have:=(hlp k y hk).1 j hj;rw[Ja,Ja,hu]at this;exact this
     ·simp only[List.map_map,cg]at hd hc;cases hk:l[k]? with
      |none=>simp [hk]at hd
      |some y=>
       simp [hk]at hd hc;subst hd hc;exact(hlp k y hk).2.1
    ·rw[rK];refine⟨e,hu,Ro λx hx=>?_⟩;obtain⟨y,hy,rfl⟩:=List.mem_map.1 hx;obtain⟨k,hk,rfl⟩:=List.getElem_of_mem hy;exact(hlp k _ (aw hk)).2.2
  ·rename_i fs hu
   obtain⟨xs,n,hn,_,hl,X_,hf⟩:=DataW.trod_struct hu h;obtain rfl:mS=n:=dP;have ahq:Lj P S fs.toList 0=some (P.cellsOf t):=by simpa using hg
   obtain⟨ds,css,h1,h2,h3⟩:=BG (P:=P) (w:=w) (S:=S) (Q:=λt cs=>∃x,DataW.trod enc P w base V0 abd mS t cs=some x) (λt cs ht ⟨x,hx⟩=>ih t cs x ht hx) fs.toList cs 0 _ ahq hl dP (by
    intro f Zy;obtain⟨i,hi,rfl⟩:=List.getElem_of_mem Zy;have hi':i<fs.size:=by simpa using hi
    refine⟨xs[i]' dP,?_⟩;rw[hf i _ (by simp [hi'])];exact aw dP)
   rw[Hc]at h1;exact⟨.st ds,by rw[rep];exact⟨css,h1,h2⟩,by rw[rK];exact⟨fs,hu,h3⟩⟩
  ·cases hg
theorem pg {α:Type} {f:α->D} {e:TypeId} (hf:∀d,rK P d e->∃x,d=f x):∀{l:List D},EU P l e->∃xs:List α,l=xs.map f
 |[],_=>⟨[],rfl⟩
 |x::t,h=>by rw[EU]at h;obtain⟨y,rfl⟩:=hf x h.1;obtain⟨ys,rfl⟩:=pg hf h.2;exact⟨y::ys,rfl⟩
theorem uh {d:D} {t:TypeId} (ht:P.underlying t=some .string) (h:rK P d t):∃s,d= .s s:=by
 cases d with
 |s x=>exact⟨x,rfl⟩
 |i k n=>rw[rK,ht]at h;cases h
 |b x=>rw[rK,ht]at h;cases h
 |st fs=>rw[rK]at h;obtain⟨_,h,_⟩:=h;rw[ht]at h;cases h
 |sl xs=>rw[rK]at h;obtain⟨_,h,_⟩:=h;rw[ht]at h;cases h
theorem ph {d:D} {t:TypeId} {k:IntKind} (ht:P.underlying t=some (.int k)) (h:rK P d t):∃n,d= .i k n:=by
 cases d with
 |i k n=>rw[rK,ht]at h;injection h with h;injection h with h;subst h;exact⟨n,rfl⟩
 |b x=>rw[rK,ht]at h;cases h
 |s x=>rw[rK,ht]at h;cases h
 |st fs=>rw[rK]at h;obtain⟨_,h,_⟩:=h;rw[ht]at h;cases h
 |sl xs=>rw[rK]at h;obtain⟨_,h,_⟩:=h;rw[ht]at h;cases h
theorem mM {d:D} {t e:TypeId} (ht:P.underlying t=some (.slice e)) (h:rK P d t):∃xs,d= .sl xs/\EU P xs e:=by
 cases d with
 |sl xs=>rw[rK]at h;obtain⟨e',h,h2⟩:=h;rw[ht]at h;injection h with h;injection h with h;subst h;exact⟨xs,rfl,h2⟩
 |i k n=>rw[rK,ht]at h;cases h
 |b x=>rw[rK,ht]at h;cases h
 |s x=>rw[rK,ht]at h;cases h
 |st fs=>rw[rK]at h;obtain⟨_,h,_⟩:=h;rw[ht]at h;cases h
theorem rB {d:D} {t:TypeId} {fs:Array Field} (ht:P.underlying t=some (.struct fs)) (h:rK P d t):∃xs,d= .st xs/\Cj P xs (fs.toList.map Field.type):=by
 cases d with
 |st xs=>rw[rK]at h;obtain⟨e',h,h2⟩:=h;rw[ht]at h;injection h with h;injection h with h;subst h;exact⟨xs,rfl,h2⟩
 |i k n=>rw[rK,ht]at h;cases h
 |b x=>rw[rK,ht]at h;cases h
 |s x=>rw[rK,ht]at h;cases h
 |sl fs=>rw[rK]at h;obtain⟨_,h,_⟩:=h;rw[ht]at h;cases h
theorem gz {xs:List D} {t:TypeId} {ts:List TypeId} (h:Cj P xs (t::ts)):∃x ys,xs=x::ys/\rK P x t/\Cj P ys ts:=by
 cases xs with
 |nil=>rw[Cj]at h;cases h
 |cons x ys=>rw[Cj]at h;obtain⟨t1,t2,he,h1,h2⟩:=h;injection he with e1 e2;subst e1 e2;exact⟨x,ys,rfl,h1,h2⟩
theorem vW {xs:List D} (h:Cj P xs []):xs=[]:=by
 cases xs with
 |nil=>rfl
 |cons x ys=>rw[Cj]at h;obtain⟨t1,t2,he,_⟩:=h;cases he
end
theorem TR {d:D} (h:rK prog d 176):∃x:Item,d=x.toD:=by obtain⟨xs,rfl,g⟩:=rB underlying176 h;clear h;obtain⟨x0,ys0,rfl,h0,g0⟩:=gz g;obtain⟨x1,ys1,rfl,h1,g1⟩:=gz g0;obtain⟨x2,ys2,rfl,h2,g2⟩:=gz g1;obtain rfl:=vW g2;obtain⟨v0,rfl⟩:=ph underlying3 h0;obtain⟨v1,rfl⟩:=ph underlying3 h1;obtain⟨v2,rfl⟩:=uh underlying9 h2;exact⟨⟨v0,v1,v2⟩,by rw[pQ]⟩
theorem Ad {α:Type} {f:α->D} {e:TypeId}:∀{l:List D},(∀d∈l,rK prog d e->∃x,d=f x)->EU prog l e->∃xs:List α,l=xs.map f
 |[],_,_=>⟨[],rfl⟩
 |x::t,hf,h=>by rw[EU]at h;obtain⟨y,rfl⟩:=hf x aT h.1;obtain⟨ys,rfl⟩:=Ad (λd hd=>hf d (aP _ hd)) h.2;exact⟨y::ys,rfl⟩
theorem Ms (n:Nat):∀d:D,SizeOf.sizeOf d<=n->rK prog d 63->∃x:Vec,d=x.toD:=by
 induction n with
 |zero=>intro d hn;cases d<;>simp at hn
 |succ n ih=>
  intro d hn h;obtain⟨xs,rfl,g⟩:=rB underlying63 h;clear h;obtain⟨x0,ys0,rfl,h0,g0⟩:=gz g;obtain⟨x1,ys1,rfl,h1,g1⟩:=gz g0;obtain⟨x2,ys2,rfl,h2,g2⟩:=gz g1;obtain⟨x3,ys3,rfl,h3,g3⟩:=gz g2;obtain⟨x4,ys4,rfl,h4,g4⟩:=gz g3;obtain⟨x5,ys5,rfl,h5,g5⟩:=gz g4;obtain⟨x6,ys6,rfl,h6,g6⟩:=gz g5;obtain⟨x7,ys7,rfl,h7,g7⟩:=gz g6;obtain rfl:=vW g7;obtain⟨v0,rfl⟩:=ph underlying3 h0;obtain⟨l1,rfl,e1⟩:=mM underlying60 h1;obtain⟨v1,rfl⟩:=pg (λd=>TR) e1;obtain⟨l2,rfl,e2⟩:=mM underlying61 h2;obtain⟨v2,rfl⟩:=Ad (f:=Vec.toD) (λd hd hs=>ih d (by have:=List.sizeOf_lt_of_mem hd;simp at hn;omega) hs) e2;obtain⟨l3,rfl,e3⟩:=mM underlying25 h3;obtain⟨v3,rfl⟩:=pg (λd=>uh underlying9) e3;obtain⟨l4,rfl,e4⟩:=mM underlying25 h4;obtain⟨v4,rfl⟩:=pg (λd=>uh underlying9) e4;obtain⟨l5,rfl,e5⟩:=mM underlying25 h5;obtain⟨v5,rfl⟩:=pg (λd=>uh underlying9) e5;obtain⟨v6,rfl⟩:=ph underlying3 h6;obtain⟨v7,rfl⟩:=ph underlying3 h7;exact⟨⟨v0,v1,v2,v3,v4,v5,v6,v7⟩,by rw[kF]⟩
theorem Df {d:D} (h:rK prog d 63):∃x:Vec,d=x.toD:=Ms _ d (af _) h
theorem OT {d:D} (h:rK prog d 65):∃x:Hop,d=x.toD:=by obtain⟨xs,rfl,g⟩:=rB underlying65 h;clear h;obtain⟨x0,ys0,rfl,h0,g0⟩:=gz g;obtain⟨x1,ys1,rfl,h1,g1⟩:=gz g0;obtain⟨x2,ys2,rfl,h2,g2⟩:=gz g1;obtain⟨x3,ys3,rfl,h3,g3⟩:=gz g2;obtain⟨x4,ys4,rfl,h4,g4⟩:=gz g3;obtain rfl:=vW g4;obtain⟨v0,rfl⟩:=ph underlying3 h0;obtain⟨v1,rfl⟩:=uh underlying9 h1;obtain⟨v2,rfl⟩:=uh underlying9 h2;obtain⟨v3,rfl⟩:=ph underlying3 h3;obtain⟨v4,rfl⟩:=Df h4;exact⟨⟨v0,v1,v2,v3,v4⟩,by rw[qQ]⟩
end Go.Proofs.YtekcpadlmfaihaaGreat
