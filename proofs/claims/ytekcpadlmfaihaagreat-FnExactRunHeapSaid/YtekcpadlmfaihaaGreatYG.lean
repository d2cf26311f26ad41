/- Facts carried over draws, allocations and calls, in the form that a search uses. -/
import Derived.Test.YtekcpadlmfaihaaGreatYA
import Derived.Deep.RegionLaw
import Derived.Deep.RegionHeld3
import Derived.Deep.DeepCutAuto
namespace Go.Proofs.YtekcpadlmfaihaaGreat
open Go.RowKit Proofs.Tryz
set_option maxHeartbeats 8000000
set_option maxRecDepth 100000
set_option linter.unusedSimpArgs false
set_option linter.unusedVariables false
variable {p:Addr} {d:D} {k:Int} {xs:List D} {F F' G X Y Y' Z:List Nat} {cs l:List Value} {B C H base bytes c g i n s:Nat} {o:Obj} {A:Option Addr} {P:Program} {Q:Prop} {α:Type} {e t:TypeId} {b f u:Value} {a w w':World}
theorem dW (w:World):w.drew.heap.size=w.heap.size:=rfl
theorem kK (h:rep w w.heap.size d cs):rep w.drew w.drew.heap.size d cs:=vP h
theorem sL (h:rep w w.heap.size d cs):rep (w.alloc o) (w.alloc o).heap.size d cs:=fM h ((Below.refl _ _).alloc (af _) _)
theorem Blk.dw (h:Blk w g t cs):Blk w.drew g t cs:=h
theorem Blk.al (h:Blk w g t cs):Blk (w.alloc o) g t cs:=h.next ((Below.refl _ _).alloc (af _) _)
theorem gX (h:own P w d t F cs):own P w.drew d t F cs:=nJ (w:=w) d t F cs (λ_ _=>rfl) h
theorem fK (h:own P w d t F cs):own P (w.alloc o) d t F cs:=em h ((Below.refl _ _).alloc (af _) _)
theorem jR (h:Below B a w):Below B a w.drew:=h.drew
theorem Blk.pk (hp:p.block≠g) (h:Blk w g t cs):Blk (w.setCell p u) g t cs:=(Below.heap_setCell w p u g (Ne.symm hp)).trans h
theorem Blk.new':Blk (w.alloc (.cells l.toArray t)) w.heap.size t l:=by simpa using Blk.new_ w t l.toArray
theorem Blk.newd:Blk (w.drew.alloc (.cells l.toArray t)) w.heap.size t l:=Blk.new' (w:=w.drew)
theorem Blk.c8 {a c d e h i:Value} (q:Blk w g t [a,b,c,d,e,f,h,i]):w.cell? ⟨g,0,none⟩=some a/\w.cell? ⟨g,1,none⟩=some b/\w.cell? ⟨g,2,none⟩=some c/\w.cell? ⟨g,3,none⟩=some d/\w.cell? ⟨g,4,none⟩=some e/\w.cell? ⟨g,5,none⟩=some f/\w.cell? ⟨g,6,none⟩=some h/\w.cell? ⟨g,7,none⟩=some i:=
 ⟨q.cell 0,q.cell 1,q.cell 2,q.cell 3,q.cell 4,q.cell 5,q.cell 6,q.cell 7⟩
theorem Blk.set8 {a c d e h i a' b' c' d' e' f' h' i':Value} (q:Blk w g t [a,b,c,d,e,f,h,i]):Blk ((((((((w.setCell ⟨g,0,none⟩ a').setCell ⟨g,1,none⟩ b').setCell ⟨g,2,none⟩ c').setCell ⟨g,3,none⟩ d').setCell ⟨g,4,none⟩ e').setCell ⟨g,5,none⟩ f').setCell ⟨g,6,none⟩ h').setCell ⟨g,7,none⟩ i') g t [a',b',c',d',e',f',h',i']:=
 (((((((q.set_ 0 _).set_ 1 _).set_ 2 _).set_ 3 _).set_ 4 _).set_ 5 _).set_ 6 _).set_ 7 _
theorem ft (h:own P w d t F cs) (hp:p.block ∉ F):own P (w.setCell p u) d t F cs:=lG h hp u
def Lo (B:Nat) (F:List Nat):Prop:=∀g∈F,g<B
theorem gC (h:own P w d t F cs):Lo w.heap.size F:=jT d t F cs h
theorem Lo.notin (h:Lo B F) (hg:B<=g):g ∉ F:=λhm=>by have:=h g hm;omega
theorem Lo.mono {B':Nat} (h:Lo B F) (hB:B<=B'):Lo B' F:=λg hg=>db (h g hg) hB
theorem Lo.app (h:Lo B F) (h':Lo B F'):Lo B (F++F'):=λg hg=>by
 rcases aG.1 hg with hg|hg
 ·exact h g hg
 ·exact h' g hg
theorem Lo.cons (hg:g<B) (h:Lo B F):Lo B (g::F):=λx hx=>by
 rcases aX.1 hx with rfl|hx
 ·exact hg
 ·exact h x hx
theorem Lo.nil:Lo B []:=λg hg=>by simp at hg
theorem fR (h:g ∉ F) (h':g ∉ F'):g ∉ F++F':=by simp [h,h']
theorem fS:g ∉ ([]:List Nat):=dR
theorem Fresh.cons (h:g ∉ F) (hB:B<=g) (hf:Fresh B F):Fresh B (g::F):=⟨aQ.2 ⟨h,hf.1⟩,λx hx=>by
 rcases aX.1 hx with rfl|hx
 ·exact hB
 ·exact hf.2 x hx⟩
theorem Fresh.app2 (hl:Lo C F) (h:Fresh B F) (h':Fresh C F') (hB:B<=C):Fresh B (F++F'):=h.app hl h' hB
theorem gR (h:Below B a w) (hb:Below w.heap.size w w') (hB:B<=w.heap.size):Below B a w':=h.trans (hb.mono hB)
theorem gT (h:Below B a w) (hB:B<=w.heap.size):Below B a (w.alloc o):=h.alloc hB o
theorem ie (h:Below B a w) (hB:B<=p.block):Below B a (w.setCell p u):=h.setCell hB u
def Mod (F:List Nat) (w w':World):Prop:=(w'.os=w.os/\w'.tape=w.tape/\w'.output=w.output)/\w.heap.size<=w'.heap.size/\∀g,g<w.heap.size->g ∉ F->w'.heap[g]?=w.heap[g]?
section
variable {P:Program} {w w':World} {F G:List Nat} {B:Nat}
theorem Mod.size (h:Mod F w w'):w.heap.size<=w'.heap.size:=h.2.1
theorem Mod.below (h:Mod F w w') (hF:∀g∈F,B<=g) (hB:B<=w.heap.size):Below B w w':=
 ⟨h.1.1,h.1.2.1,h.1.2.2,h.2.1,λk hk=>h.2.2 k dP (λhm=>by have:=hF k hm;omega)⟩
theorem Mod.of_below (h:Below w.heap.size w w'):Mod F w w':=⟨⟨h.os,h.tape,h.output⟩,h.size,λk hk _=>h.block k hk⟩
theorem Mod.mono (h:Mod F w w') (hF:∀g∈F,g∈G):Mod G w w':=⟨h.1,h.2.1,λk hk hn=>h.2.2 k hk (λhm=>hn (hF k hm))⟩
theorem Mod.trans {w2:World} (h:Mod F w w') (k:Mod G w' w2) (hG:∀g∈G,g∈F\/w.heap.size<=g):Mod F w w2:=
 ⟨⟨k.1.1.trans h.1.1,k.1.2.1.trans h.1.2.1,k.1.2.2.trans h.1.2.2⟩,du h.2.1 k.2.1,λg hg hn=>(k.2.2 g (db hg h.2.1) (λhm=>by rcases hG g hm with h1|h1;exact hn h1;omega)).trans (h.2.2 g hg hn)⟩
theorem Mod.refl:Mod F w w:=⟨⟨rfl,rfl,rfl⟩,af _,λ_ _ _=>rfl⟩
theorem fH {d:D} {t:TypeId} {cs:List Value} (h:own P w d t G cs) (hm:Mod F w w') (hd:∀g∈G,g ∉ F):own P w' d t G cs:=
 nJ d t G cs (λg hg=>hm.2.2 g (jT d t G cs h g hg) (hd g hg)) h
theorem Vv {l:List D} {e:TypeId} {css:List (List Value)} (h:iv P w l e G css) (hm:Mod F w w') (hd:∀g∈G,g ∉ F):iv P w' l e G css:=
 mI l e G css (λg hg=>hm.2.2 g (qF l e G css h g hg) (hd g hg)) h
theorem Blk.mod {g:Nat} {t:TypeId} {cs:List Value} (h:Blk w g t cs) (hm:Mod F w w') (hd:g ∉ F):Blk w' g t cs:=(hm.2.2 g h.lt hd).trans h
theorem jN {a:World} (h:Below B a w) (hm:Mod F w w') (hF:∀g∈F,B<=g) (hB:B<=w.heap.size):Below B a w':=h.trans (hm.below hF hB)
mutual
theorem Rm:∀(d:D) (cs:List Value),rep w B d cs->∀u∈cs,u.oneCell'=true
 | .i _ _,cs,h=>by rw[rep]at h;rw[h.1];simp [Value.oneCell']
 | .b _,cs,h=>by rw[rep]at h;rw[h];simp [Value.oneCell']
 | .s _,cs,h=>by rw[rep]at h;rw[h.1];simp [Value.oneCell']
 | .st fs,cs,h=>by rw[rep]at h;obtain⟨css,rfl,h2⟩:=h;intro u hu;obtain⟨c1,hc,hu⟩:=List.mem_flatten.1 hu;exact NT fs css h2 c1 hc u hu
 | .sl xs,cs,h=>by rw[rep]at h;obtain⟨A,n,c,s,fB,rfl,_⟩:=h;simp [Value.oneCell']
theorem NT:∀(l:List D) (css:List (List Value)),gb w B l css->∀c∈css,∀u∈c,u.oneCell'=true
 |[],css,h=>by rw[gb]at h;rw[h];simp
 |x::t,css,h=>by
  rw[gb]at h;obtain⟨c1,c2,rfl,h1,h2⟩:=h;intro c hc;rcases aX.1 hc with rfl|hc
  ·exact Rm x _ h1
  ·exact NT t c2 h2 c hc
end
theorem Rc {d:D} {t:TypeId} {cs:List Value} (h:own P w d t F cs):∀u∈cs,u.oneCell'=true:=Rm d cs (eW d t F cs h)
end
def AppF (H:Nat) (F F' yX:List Nat):Prop:=yX.Nodup/\∀x∈yX,x∈F\/x∈F'\/x=H
theorem Jb {c':Nat}{F2:List Nat} {fB:List (Row s)} (h1:P.underlying t=some (.slice e)) (h2:P.cellsOf e=s)
 (hO:Own Row.v s e w 0 A n c fB) (hF:F=oz A++F2) (hA:iv P w xs e F2 (fB.map Row.v)) (hd:own P w d e F' cs) (hl:cs.length=s) (sM:(F++F').Nodup)
 (k1:w'.ownsRow 0 e s (.slice (some ⟨g,0,none⟩) (n+1) c') (n+1) (fB.flatMap Row.v++cs)) (k2:w.grownBy w' (Value.slice A n c).ownBlock) (k3:(Value.slice A n c).ownBlock=some g\/g=w.heap.size):
 ∃yX,own P w' (.sl (xs++[d])) t yX [.slice (some ⟨g,0,none⟩) (n+1) c']/\AppF w.heap.size F F' yX/\Mod F w w':=by
 subst hF;have hob:∀x,(Value.slice A n c).ownBlock=some x->x∈oz A:=by
  intro x hx;cases A with
  |none=>simp [Value.ownBlock]at hx
  |some a=>simp [Value.ownBlock]at hx;simp [oz,hx]
 have mC:Own Row.v s e w' 0 (some ⟨g,0,none⟩) (n+1) c' (fB++[⟨cs,hl⟩]):=⟨by simp [hO.1],by simpa [cj]using k1⟩;have Pv:=sM;rw[aS]at Pv;obtain⟨n1,n2,n3⟩:=aE.1 Pv;have hm:Mod (oz A) w w':=⟨⟨k2.os,k2.tape,k2.output⟩,k2.size,λi hi hn=>k2.block i hi (λe=>hn (hob i e.symm))⟩;have hlt:∀x∈F2++F',x<w.heap.size:=λx hx=>by
  rcases aG.1 hx with hx|hx
  ·exact qF _ _ _ _ hA x hx
  ·exact jT _ _ _ _ hd x hx
 have hgn:g ∉ F2++F':=λhx=>by
  rcases k3 with k3|k3
  ·exact n3 g (hob g k3) g hx rfl
  ·have:=hlt g hx;omega
 refine⟨g::(F2++F'),?_,⟨aQ.2 ⟨hgn,n2⟩,λx hx=>?_⟩,hm.mono λg hg=>bJ _ hg⟩
 ·rw[own];refine⟨e,_,_,_,s,fB++[⟨cs,hl⟩],F2++F',h1,h2,rfl,?_,mC,rfl,?_⟩
  ·exact mC.fil.2
  ·rw[aI];exact s_ (Vv hA hm λx hx hn=>n3 x hn x (bJ _ hx) rfl) (fH hd hm λx hx hn=>n3 x hn x (bD _ hx) rfl)
 ·rcases aX.1 hx with rfl|hx
  ·rcases k3 with k3|k3
   ·exact .inl (bJ _ (hob _ k3))
   ·exact .inr (.inr k3)
  ·rcases aG.1 hx with hx|hx
   ·exact .inl (bD _ hx)
   ·exact .inr (.inl hx)
section
variable {P:Program} {size bytes:Nat} {t e:TypeId} {ops:Array Oper} {o:Oper} {a:Act} {Q:Exit->Act->World->Prop} {w:World} {xs:List D} {A:Option Addr} {n c:Nat} {F F':List Nat} {d:D} {cs:List Value} {b m:Nat} {te:TypeId}
theorem gL {K:Act->World->Prop} {E:Prop} (hT:ElemTy P t e size bytes) (kD:P.cellsOf e=size) (zK:o.guard=none) (sl x:Operand)
 (ho:o.op= .call {callee:= .builtin .append,args:=#[sl,x],argTypes:=#[t,t]}) (hs:a.eval sl= .slice A n c) (mC:own P w (.sl xs) t F [.slice A n c])
 (hx:a.eval x= .slice (some ⟨b,0,none⟩) 1 m) (hb:Blk w b te cs) (hd:own P w d e F' cs) (hl:cs.length=size) (sM:(F++F').Nodup) (hn:n+1<=maxLen) (h63:(n+1)*bytes<=140737488355328)
 (h:∀g c' w' yX,own P w' (.sl (xs++[d])) t yX [.slice (some ⟨g,0,none⟩) (n+1) c']->AppF w.heap.size F F' yX->Mod F w w'->K (a.put o.dst (.slice (some ⟨g,0,none⟩) (n+1) c')) w'):
 if Region.wanted o (yielded ops a.tmps)=true then Oper.wp P o a w K Q else E:=by
 obtain⟨i,z,ht,hi,hz,i1,i2,i3,i4⟩:=hT.ok;have BC:=mC;rw[own]at BC;obtain⟨e',A',n',c',s,fB,F2,h1,h2,he,hm,hO,hF,hA⟩:=BC;injection he with he;injection he with e1 e2 e3;subst e1 e2 e3
 rw[ht]at h1;injection h1 with h1;injection h1 with h1;subst h1
 rw[kD]at h2;subst h2;refine step_append_lies w zK sl x t ho 0 e i z size bytes ht hi hz i1 i2 i3 i4 _ n _ hs hO.2 ⟨b,0,none⟩ 1 m cs hx (by rw[hl,Nat.one_mul]) (World.news_of_block (cs:=cs.toArray) hb) (Rc hd) dP hn h63 (dj _) _ rfl ?_;intro g cap w' k1 k2 k3 k4;obtain⟨yX,p1,p2,p3⟩:=Jb ht kD hO hF hA hd hl sM k1 k2 k3;exact h g cap w' yX p1 p2 p3
theorem n8 {rest:List Oper} (hT:ElemTy P t e size bytes) (kD:P.cellsOf e=size) (zK:o.guard=none) (sl x:Operand)
 (ho:o.op= .call {callee:= .builtin .append,args:=#[sl,x],argTypes:=#[t,t]}) (hs:a.eval sl= .slice A n c) (mC:own P w (.sl xs) t F [.slice A n c])
 (hx:a.eval x= .slice (some ⟨b,0,none⟩) 1 m) (hb:Blk w b te cs) (hd:own P w d e F' cs) (hl:cs.length=size) (sM:(F++F').Nodup) (hn:n+1<=maxLen) (h63:(n+1)*bytes<=140737488355328)
 (h:∀g c' w' yX,own P w' (.sl (xs++[d])) t yX [.slice (some ⟨g,0,none⟩) (n+1) c']->AppF w.heap.size F F' yX->Mod F w w'->wpList P ops Q rest (a.put o.dst (.slice (some ⟨g,0,none⟩) (n+1) c')) w'):
 wpList P ops Q (o::rest) a w:=by
 obtain⟨i,z,ht,hi,hz,i1,i2,i3,i4⟩:=hT.ok;have BC:=mC;rw[own]at BC;obtain⟨e',A',n',c',s,fB,F2,h1,h2,he,hm,hO,hF,hA⟩:=BC;injection he with he;injection he with e1 e2 e3;subst e1 e2 e3
 rw[ht]at h1;injection h1 with h1;injection h1 with h1;subst h1
 rw[kD]at h2;subst h2;refine wpList_append_lies w zK sl x t ho 0 e i z size bytes ht hi hz i1 i2 i3 i4 _ n _ hs hO.2 ⟨b,0,none⟩ 1 m cs hx (by rw[hl,Nat.one_mul]) (World.news_of_block (cs:=cs.toArray) hb) (Rc hd) dP hn h63 (dj _) _ rfl ?_;intro g cap w' k1 k2 k3 k4;obtain⟨yX,p1,p2,p3⟩:=Jb ht kD hO hF hA hd hl sM k1 k2 k3;exact h g cap w' yX p1 p2 p3
end
theorem Fresh.repl (h:Fresh B (Y++Z)) (hl:Lo C (Y++Z)) (hB:B<=C) (hF:∀x∈F',C<=x) (hH:C<=H) (ha:AppF H Y F' Y'):Fresh B (Y'++Z):=by
 obtain⟨n1,n2,n3⟩:=aE.1 h.1;have iU:∀x∈Y',x∈Y\/C<=x:=λx hx=>by
  rcases ha.2 x hx with h1|h1|h1
  ·exact .inl h1
  ·exact .inr (hF x h1)
  ·exact .inr dP
 refine⟨aE.2 ⟨ha.1,n2,λx hx y hy hxy=>?_⟩,λx hx=>?_⟩
 ·subst hxy;rcases iU x hx with h1|h1
  ·exact n3 x h1 x hy rfl
  ·have:=hl x (bD _ hy);omega
 ·rcases aG.1 hx with hx|hx
  ·rcases iU x hx with h1|h1
   ·exact h.2 x (bJ _ h1)
   ·omega
  ·exact h.2 x (bD _ hx)
theorem AppF.notin {yX:List Nat} (ha:AppF H F F' yX) (h1:g ∉ F) (h2:∀x∈F',C<=x) (h3:g<C) (h4:g<H):g ∉ yX:=λhm=>by
 rcases ha.2 g hm with h|h|h
 ·exact h1 h
 ·have:=h2 g h;omega
 ·omega
theorem Fresh.sub (h:Fresh B F) (hs:G.Sublist F):Fresh B G:=⟨h.1.sublist hs,λx hx=>h.2 x (hs.subset hx)⟩
theorem Fresh.perm (h:Fresh B F) (hp:F.Perm G):Fresh B G:=⟨hp.nodup h.1,λx hx=>h.2 x (hp.mem_iff.2 hx)⟩
theorem Fresh.tail (h:Fresh B (g::F)):Fresh B F:=⟨(aQ.1 h.1).2,λx hx=>h.2 x (aP _ hx)⟩
theorem Fresh.right (h:Fresh B (F++G)):Fresh B G:=⟨(aE.1 h.1).2.1,λx hx=>h.2 x (bD _ hx)⟩
theorem Fresh.left (h:Fresh B (F++G)):Fresh B F:=⟨(aE.1 h.1).1,λx hx=>h.2 x (bJ _ hx)⟩
theorem Fresh.dis (h:Fresh B (F++G)):∀g∈G,g ∉ F:=λg hg hf=>(aE.1 h.1).2.2 g hf g hg rfl
theorem Blk.c3 {a c:Value} (q:Blk w g t [a,b,c]):w.cell? ⟨g,0,none⟩=some a/\w.cell? ⟨g,1,none⟩=some b/\w.cell? ⟨g,2,none⟩=some c:=⟨q.cell 0,q.cell 1,q.cell 2⟩
theorem Blk.grown {row:Option Nat} (h:Blk w g t cs) (hg:w.grownBy w' row) (hr:row≠some g):Blk w' g t cs:=(hg.block g h.lt (Ne.symm hr)).trans h
theorem Own.ne {enc:α->List Value} {l:List α} (h:Own enc s e w base A n c l) (hg:g<base\/w.heap.size<=g):(Value.slice A n c).ownBlock≠some g:=by intro he;have:=h.row g he;omega
theorem Own.dw {enc:α->List Value} {l:List α} (h:Own enc s e w base A n c l):Own enc s e w.drew base A n c l:=h.kept (SQ (A8 _ none)) (by cases A with|none=>exact .inl rfl|some b=>exact .inr (by simp [Value.ownBlock]))
theorem Own.al {enc:α->List Value} {l:List α} (h:Own enc s e w base A n c l):Own enc s e (w.alloc o) base A n c l:=h.alloc o
theorem rZ (w:World) (base:Nat) (t ty e:TypeId) (i:TypeInfo) (size:Nat) (ht:P.underlying t=some (.slice e)) (hi:P.info? e=some i)
 (v:Value) (n:Nat) (xs:List Value) (mC:w.ownsRow base e size v n xs) (c:Nat):(Builtin.append_ #[t,t] ty #[v,.slice none 0 c]).run P w= .ok v w:=by
 rcases mC.2 with ⟨rfl,rfl⟩|⟨g,cap,pq,rfl,_,_,Nh,_⟩
 ·simp [Builtin.append_,run_underlying ht,sizeOf,typeInfo,hi,Builtin.lenOf,Builtin.firstCells]
 ·simp [Builtin.append_,run_underlying ht,sizeOf,typeInfo,hi,Builtin.lenOf,Builtin.firstCells,Nh,storeCells]
theorem xG (enc:α->List Value){size:Nat} (hT:ElemTy P t e size bytes) (mB:∀x,(enc x).length=size) (hone:∀x,∀u∈enc x,u.oneCell'=true)
 {ops:Array Oper} {rest:List Oper} {o:Oper} {a:Act} {Q:Exit->Act->World->Prop} {w:World} (zK:o.guard=none) (sl x:Operand)
 (ho:o.op= .call {callee:= .builtin .append,args:=#[sl,x],argTypes:=#[t,t]})
 (base:Nat) (A:Option Addr) (n c:Nat) (l:List α) (hs:a.eval sl= .slice A n c) (mC:Own enc size e w base A n c l)
 (A2:Option Addr) (m c2 B:Nat) (l2:List α) (hx:a.eval x= .slice A2 m c2) (hr:Reads enc size w B A2 m l2)
 (h63:(n+m)*bytes<=140737488355328) (hn:n+m<=maxLen) (DC:base<=w.heap.size)
 (h:∀A' c' w',Own enc size e w' base A' (n+m) c' (l++l2)->w.grownBy w' (Value.slice A n c).ownBlock->Below base w w'->wpList P ops Q rest (a.put o.dst (.slice A' (n+m) c')) w'):wpList P ops Q (o::rest) a w:=by
 obtain⟨i,z,ht,hi,hz,h1,h2,h3,h4⟩:=hT.ok;have hlt:=mC.2.lt;have iU:∃v' w',(Builtin.append_ #[t,t] o.type #[.slice A n c,.slice A2 m c2]).run P w= .ok v' w'/\w'.ownsRow base e size v' (n+m) ((l++l2).flatMap enc)/\w.grownBy w' (Value.slice A n c).ownBlock:=by
  rcases A2 with _|ad
  ·have hm:m=0:=FU;subst hm;have xf:l2=[]:=List.eq_nil_of_length_eq_zero hr.1;subst xf;exact⟨_,w,rZ w base t o.type e i size ht hi _ n _ mC.2 c2,by simpa using mC.2,World.grownBy.refl w _⟩
  ·have px:∀j u,(l2.flatMap enc)[j]?=some u->w.cell? (ad.add j)=some u:=GZ;obtain⟨v',w',Pz,h5,h6,_⟩:=run_append_own_at (P:=P) w base t o.type e i z size bytes ht hi hz h1 h2 h3 h4 _ n _ mC.2 ad m c2 (l2.flatMap enc) (by rw[gN mB,hr.1]) px
    BK hn h63 DC
   exact⟨v',w',Pz,by rw[cj];exact h5,h6⟩
 obtain⟨v',w',Pz,h5,h6⟩:=iU;have hb:Below base w w':=(Below.refl _ _).grown h6 DC (λk hk=>(hlt k hk).1);have kO:(l++l2).length=n+m:=by rw[aY,mC.1,hr.1]
 have Ut:∃A' c',v'= .slice A' (n+m) c':=by
  rcases h5.2 with ⟨h9,h10⟩|⟨g,cap,pq,h9,_⟩
  ·exact⟨none,0,by rw[h9,h10]⟩
  ·exact⟨_,_,h9⟩
 obtain⟨A',c',rfl⟩:=Ut;refine wpList_plain zK λK hK=>?_;unfold Oper.wp execOp;simp only[ho,resolve,invoke,builtin,Sem.run_bind,Sem.run_pure,Result.andThen_ok,List.map_toArray,br,bL,hs,hx,Pz];exact hK _ _ (h A' c' w' ⟨kO,h5⟩ h6 hb)
def unl (l:Array Bool):Nat:=(l.toList.filter λb=> !b).length
theorem LQ {l:List Bool} {i:Nat} (h:l[i]?=some false):((l.set i true).filter λb=> !b).length+1=(l.filter λb=> !b).length:=by
 induction l generalizing i with
 |nil=>simp at h
 |cons a t ih=>
  cases i with
  |zero=>simp at h;subst h;simp
  |succ i=>
   simp at h;have:=ih h;cases a<;>simp [this]
theorem YZ {l:List Bool} (h:l[i]?=some false):0<(l.filter λb=> !b).length:=by have:=LQ h;omega
def QC (ops:Array Oper):Bool:=(List.range ops.size).all λi=>((ops[i]?).map λo=>o.after.all λe=>decide (e.on<i)).getD true
theorem O5 {ops:Array Oper} (h:QC ops=true) {o:Oper} (ho:ops[i]?=some o):∀e∈o.after,e.on<i:=by unfold QC at h;rw[aV]at h;have:=h i (c_.2 (cN.1 ho).1);rw[ho]at this;simp only[Option.map_some,bV,Array.all_eq_true_iff_forall_mem,aL]at this;exact this
theorem Kb {ops:Array Oper} {md:Region.Mode} {l:Array Bool} (hb:QC ops=true) (hz:l.size=ops.size) (hr:Region.ready md ops l=[]):∀i,i<ops.size->l[i]?=some true:=by
 intro i
 induction i using Nat.strongRecOn with
 |ind i ih=>
  intro hi;have hl:i<l.size:=dP;cases hli:l[i] with
  |true=>simp [hl,hli]
  |false=>
   exfalso;have:i∈Region.ready md ops l:=mem_ready.2 ⟨by simp [hl,hli],ops[i],by simp [hi],λe he _=>by have h1:=O5 hb (show ops[i]?=some ops[i] by simp [hi]) e he;have h2:=ih e.on h1 dP;have h3:e.on<l.size:=dP;simp [h3]at h2 ⊢;exact h2⟩
   rw[hr]at this;simp at this
section
variable {P:Program} {ops:Array Oper} {Q:Exit->Act->World->Prop} {md:Region.Mode} {S:World->Prop}
theorem Qo (I:Array Bool->Act->World->Prop) (hz:∀l a w,I l a w->l.size=ops.size) (hSI:∀l a w,I l a w->S w)
 (TC:∀i o l a w,ops[i]?=some o->l[i]?=some false->(∀e∈o.after,Region.binds md e=true->l.getD e.on false=true)->I l a w->
  ∀K:Act->World->Prop,(∀a' w',I (l.setIfInBounds i true) a' w'->K a' w')->if Region.wanted o (yielded ops a.tmps)=true then Oper.wp P o a w K Q else K (a.put o.dst undef) w)
 (R7:QC ops=true) (tT:∀l a w,I l a w->(∀i,i<ops.size->l[i]?=some true)->Q .normal a w):
 ∀mS l a w,unl l<=mS->I l a w->wpAnyH P md ops Q S mS l a w:=by
 intro mS
 induction mS with
 |zero=>
  intro l a w hu hI;have hr:Region.ready md ops l=[]:=GN;exact⟨hr,tT l a w hI (Kb R7 (hz l a w hI) hr)⟩
 |succ mS ih=>
  intro l a w hu hI;refine⟨λhr=>tT l a w hI (Kb R7 (hz l a w hI) hr),λi hi=>?_⟩;obtain⟨h1,o,h2,h4⟩:=mem_ready.1 hi;have hlt:i<l.size:=BP;have h3:l[i]?=some false:=by simp [hlt]at h1;simp [hlt,h1]
  refine dD h2 λK' hK=>?_;refine TC i o l a w h2 h3 (λe he hb=>h4 e he hb) hI K' λa' w' hI'=>hK a' w' ⟨hSI _ _ _ hI',ih _ a' w' ?_ hI'⟩;have h5:l.toList[i]?=some false:=by simpa using h3
  have:=LQ h5;unfold unl at hu ⊢;rw[Array.toList_setIfInBounds];omega
end
def pr (P:Program) (w:World) (xs:List D) (t:TypeId) (bS bA:Bool) (uS uA:Value) (F:List Nat):Prop:=
 match bS,bA with
 |false,false=>F=[]
 |true,false=>∃g,uS= .slice (some ⟨g,0,none⟩) 0 0/\own P w (.sl []) t F [.slice (some ⟨g,0,none⟩) 0 0]
 |true,true=>∃A n c,uA= .slice A n c/\own P w (.sl xs) t F [.slice A n c]
 |false,true=>False
def sg (P:Program) (w:World) (d:D) (t:TypeId) (b:Bool) (u:Value) (F:List Nat):Prop:=
 match b with
 |false=>F=[]
 |true=>own P w d t F [u]
theorem iX {bS bA:Bool} {uS uA:Value} (h:pr P w xs t bS bA uS uA F) (hm:Mod G w w') (hd:∀g∈F,g ∉ G):pr P w' xs t bS bA uS uA F:=by
 cases bS<;>cases bA
 ·exact h
 ·exact h
 ·obtain⟨g,h1,h2⟩:=h;exact⟨g,h1,fH h2 hm hd⟩
 ·obtain⟨A,n,c,h1,h2⟩:=h;exact⟨A,n,c,h1,fH h2 hm hd⟩
theorem vU {b:Bool} (h:sg P w d t b u F) (hm:Mod G w w') (hd:∀g∈F,g ∉ G):sg P w' d t b u F:=by
 cases b
 ·exact h
 ·exact fH (show own P w d t F [u] from h) hm hd
theorem Fresh.mid (h:Fresh B (X++(Y++Z))) (hl:Lo C (X++(Y++Z))) (hB:B<=C) (hn:Y'.Nodup) (hy:∀x∈Y',x∈Y\/C<=x):Fresh B (X++(Y'++Z)):=by
 obtain⟨n1,n2,n3⟩:=aE.1 h.1;obtain⟨m1,m2,m3⟩:=aE.1 n2;refine⟨aE.2 ⟨n1,aE.2 ⟨hn,m2,?_⟩,?_⟩,?_⟩
 ·intro a ha b hb e;subst e;rcases hy a ha with h1|h1
  ·exact m3 a h1 a hb rfl
  ·have:=hl a (by simp [hb]);omega
 ·intro a ha b hb e;subst e;rcases aG.1 hb with hb|hb
  ·rcases hy a hb with h1|h1
   ·exact n3 a ha a kw rfl
   ·have:=hl a (by simp [ha]);omega
  ·exact n3 a ha a (by simp [hb]) rfl
 ·intro g hg;rcases aG.1 hg with hg|hg
  ·exact h.2 g fe
  ·rcases aG.1 hg with hg|hg
   ·rcases hy g hg with h1|h1
    ·exact h.2 g kw
    ·omega
   ·exact h.2 g fe
theorem Lo.mid {C':Nat} (h:Lo C (X++(Y++Z))) (hC:C<=C') (hy:Lo C' Y'):Lo C' (X++(Y'++Z)):=λg hg=>by
 rcases aG.1 hg with hg|hg
 ·exact db (h g fe) hC
 ·rcases aG.1 hg with hg|hg
  ·exact hy g hg
  ·exact db (h g fe) hC
theorem Lo.one (h:g<C):Lo C [g]:=λx hx=>by simp at hx;omega
theorem Fresh.apart (h:Fresh B (X++(Y++Z))):(∀g∈X,g ∉ Y)/\(∀g∈Z,g ∉ Y):=by obtain⟨n1,n2,n3⟩:=aE.1 h.1;obtain⟨m1,m2,m3⟩:=aE.1 n2;exact⟨λg hg hy=>n3 g hg g eK rfl,λg hg hy=>m3 g hy g hg rfl⟩
theorem P0 (enc:α->List Value){size:Nat}{ty:TypeId} (hT:ElemTy P t e size bytes) (mB:∀x,(enc x).length=size) (hone:∀x,∀u∈enc x,u.oneCell'=true)
 (base:Nat) (A:Option Addr) (n c:Nat) (l:List α) (mC:Own enc size e w base A n c l) (A2:Option Addr) (m c2 B:Nat) (l2:List α) (hr:Reads enc size w B A2 m l2)
 (h63:(n+m)*bytes<=140737488355328) (hn:n+m<=maxLen) (DC:base<=w.heap.size):
 ∃v' w',(Builtin.append_ #[t,t] ty #[.slice A n c,.slice A2 m c2]).run P w= .ok v' w'/\w'.ownsRow base e size v' (n+m) ((l++l2).flatMap enc)/\w.grownBy w' (Value.slice A n c).ownBlock/\(v'.ownBlock=(Value.slice A n c).ownBlock\/v'.ownBlock=some w.heap.size):=by
 obtain⟨i,z,ht,hi,hz,h1,h2,h3,h4⟩:=hT.ok;rcases A2 with _|ad
 ·have hm:m=0:=FU;subst hm;have xf:l2=[]:=List.eq_nil_of_length_eq_zero hr.1;subst xf;exact⟨_,w,rZ w base t ty e i size ht hi _ n _ mC.2 c2,by simpa using mC.2,World.grownBy.refl w _,.inl rfl⟩
 ·have px:∀j u,(l2.flatMap enc)[j]?=some u->w.cell? (ad.add j)=some u:=GZ;obtain⟨v',w',Pz,h5,h6,_,h8⟩:=run_append_own_at (P:=P) w base t ty e i z size bytes ht hi hz h1 h2 h3 h4 _ n _ mC.2 ad m c2 (l2.flatMap enc) (by rw[gN mB,hr.1]) px
   BK hn h63 DC
  exact⟨v',w',Pz,by rw[cj];exact h5,h6,h8⟩
theorem qc {f:α->D} (enc:α->List Value){size:Nat} (hT:ElemTy P t e size bytes) (kD:P.cellsOf e=size) (mB:∀x,(enc x).length=size) (hone:∀x,∀u∈enc x,u.oneCell'=true)
 {ops:Array Oper} {o:Oper} {a:Act} {Q:Exit->Act->World->Prop} {K:Act->World->Prop} {E:Prop} {w:World} (zK:o.guard=none) (sl x:Operand)
 (ho:o.op= .call {callee:= .builtin .append,args:=#[sl,x],argTypes:=#[t,t]}) {g:Nat} {F:List Nat} (hs:a.eval sl= .slice (some ⟨g,0,none⟩) 0 0) (mC:own P w (.sl []) t F [.slice (some ⟨g,0,none⟩) 0 0])
 (A2:Option Addr) (m c2 B:Nat) (l2:List α) (hx:a.eval x= .slice A2 m c2) (hr:Reads enc size w B A2 m l2) (hfl:∀x∈l2,∀w',own P w' (f x) e [] (enc x))
 (h63:m*bytes<=140737488355328) (hn:m<=maxLen)
 (h:∀A' c' w' F',own P w' (.sl (l2.map f)) t F' [.slice A' m c']->(F'.Nodup/\∀x∈F',x∈F\/w.heap.size<=x)->Mod F w w'->K (a.put o.dst (.slice A' m c')) w'):
 if Region.wanted o (yielded ops a.tmps)=true then Oper.wp P o a w K Q else E:=by
 obtain⟨i,z,ht,hi,hz,h1,h2,h3,h4⟩:=hT.ok;have BC:=mC;rw[own]at BC;obtain⟨e',A',n',c',s,fB,F2,k1,k2,he,hm,hO,hF,hA⟩:=BC;injection he with he;injection he with e1 e2 e3;subst e1 e2 e3
 rw[ht]at k1;injection k1 with k1;injection k1 with k1;subst k1
 rw[kD]at k2;subst k2;rw[iv]at hA;obtain⟨hF2,aef⟩:=hA;have hrw:fB=[]:=List.map_eq_nil_iff.1 aef;subst hrw hF2;have hF':F=[g]:=by rw[hF];rfl
 subst hF';have hO2:Own enc size e w 0 (some ⟨g,0,none⟩) 0 0 ([]:List α):=⟨rfl,by simpa using hO.2⟩;obtain⟨v',w',Pz,q1,q2,q3⟩:=P0 (ty:=o.type) enc hT mB hone 0 _ 0 0 [] hO2 A2 m c2 B l2 hr (by simpa using h63) (by simpa using hn) (dj _);rw[bI,cJ]at q1;have Ut:∃A' c',v'= .slice A' m c'/\(oz A'=[g]\/oz A'=[w.heap.size]\/oz A'=[])/\c'<=maxLen:=by
  rcases q1.2 with ⟨h9,h10⟩|⟨g',cap,pq,h9,_,_,_,Ng,_⟩
  ·exact⟨none,0,by rw[h9,h10],.inr (.inr rfl),by unfold maxLen;omega⟩
  ·refine⟨_,_,h9,?_,Ng⟩;rw[h9]at q3;simp only[Value.ownBlock,Option.map_some,cE]at q3;rcases q3 with q3|q3
   ·left;simp [oz,q3]
   ·right;left;simp [oz,q3]
 obtain⟨A',c',rfl,K7,sT⟩:=Ut;have hO3:Own enc size e w' 0 A' m c' l2:=⟨hr.1,q1⟩;have Py:own P w' (.sl (l2.map f)) t (oz A') [.slice A' m c']:=zZ mB ht kD hO3 sT (λx hx=>hfl x hx w');have Pu:Mod [g] w w':=⟨⟨q2.os,q2.tape,q2.output⟩,q2.size,λk hk hn=>q2.block k hk (λe=>by simp [Value.ownBlock]at e;exact hn mr)⟩;have hK:=h A' c' w' (oz A') Py ⟨by cases A'<;>simp [oz],λx hx=>by
  rcases K7 with K7|K7|K7<;>rw[K7]at hx
  ·exact .inl hx
  ·simp at hx;exact .inr dP
  ·simp at hx⟩ Pu
 rw[aN (by simp [Region.wanted,zK])];unfold Oper.wp execOp;simp only[ho,resolve,invoke,builtin,Sem.run_bind,Sem.run_pure,Result.andThen_ok,List.map_toArray,br,bL,hs,hx,Pz];exact hK
structure Cel where
 count:Int
 value:Vec
 parts:List Int
def Cel.toD (x:Cel):D:= .st [.i .i64 x.count,x.value.toD,.sl (x.parts.map (.i .i64))]
theorem m7 (x:Cel):x.toD= .st [.i .i64 x.count,x.value.toD,.sl (x.parts.map (.i .i64))]:=qf
theorem i8 {x:Cel} (h:rep w B x.toD cs):∃(eL:Option Addr) (eS:Nat) (eO:Nat) (eN:Option Addr) (eU:Nat) (eQ:Nat) (eM:Option Addr) (eT:Nat) (eP:Nat) (fh:Option Addr) (fo:Nat) (fk:Nat) (eD:Option Addr) (eF:Nat) (eE:Nat) (fj:Option Addr) (fq:Nat) (fm:Nat),cs=[.int .i64 x.count,.int .i64 x.value.kind,.slice eL eS eO,.slice eN eU eQ,.slice eM eT eP,.slice fh fo fk,.slice eD eF eE,.int .i64 x.value.code,.int .i64 x.value.env,.slice fj fq fm]/\(Lit.int .i64 x.count).wf=true/\rep w B x.value.toD [x.value.kind,.slice eL eS eO,.slice eN eU eQ,.slice eM eT eP,.slice fh fo fk,.slice eD eF eE,x.value.code,x.value.env]/\rep w B (.sl (x.parts.map (.i .i64))) [.slice fj fq fm]:=by rw[m7,rep]at h;obtain⟨css,rfl,h⟩:=h;rw[gb]at h;obtain⟨c0,css,rfl,k0,h⟩:=h;rw[gb]at h;obtain⟨c1,css,rfl,k1,h⟩:=h;rw[gb]at h;obtain⟨c2,css,rfl,k2,h⟩:=h;rw[gb]at h;subst h;rw[rep]at k0;obtain⟨rfl,k0⟩:=k0;obtain⟨Ff,Ft,Fj,Fh,Fv,Fm,Fg,Fu,Fk,LR,LU,LT,Ck,Co,Cm,rfl,_⟩:=fw k1;obtain⟨A2,n2,d2,rfl⟩:=fD k2;exact⟨Ff,Ft,Fj,Fh,Fv,Fm,Fg,Fu,Fk,LR,LU,LT,Ck,Co,Cm,A2,n2,d2,rfl,k0,k1,k2⟩
theorem uO {x:Cel} {eL:Option Addr} {eS:Nat} {eO:Nat} {eN:Option Addr} {eU:Nat} {eQ:Nat} {eM:Option Addr} {eT:Nat} {eP:Nat} {fh:Option Addr} {fo:Nat} {fk:Nat} {eD:Option Addr} {eF:Nat} {eE:Nat} {fj:Option Addr} {fq:Nat} {fm:Nat} {Fvalue Fparts:List Nat} (FJ:(Lit.int .i64 x.count).wf=true) (me:own prog w (x.value.toD) 38 Fvalue [x.value.kind,.slice eL eS eO,.slice eN eU eQ,.slice eM eT eP,.slice fh fo fk,.slice eD eF eE,x.value.code,x.value.env]) (kL:own prog w (.sl (x.parts.map (.i .i64))) 26 Fparts [.slice fj fq fm]):own prog w x.toD 43 (Fvalue++(Fparts++[])) [x.count,x.value.kind,.slice eL eS eO,.slice eN eU eQ,.slice eM eT eP,.slice fh fo fk,.slice eD eF eE,x.value.code,x.value.env,.slice fj fq fm]:=by rw[m7,own];exact⟨_,[[.int .i64 x.count],[.int .i64 x.value.kind,.slice eL eS eO,.slice eN eU eQ,.slice eM eT eP,.slice fh fo fk,.slice eD eF eE,.int .i64 x.value.code,.int .i64 x.value.env],[.slice fj fq fm]],underlying43,rfl,(fg (F1:=[]) (by rw[own];exact⟨rfl,rfl,FJ⟩) (fg me (fg kL p_)))⟩
theorem lm {l:List Cel}{k:Nat} (h:rep w B (.sl (l.map Cel.toD)) [.slice A n c]) (hk:k<n):
 ∃(b off:Nat) (x:Cel) (eL:Option Addr) (eS:Nat) (eO:Nat) (eN:Option Addr) (eU:Nat) (eQ:Nat) (eM:Option Addr) (eT:Nat) (eP:Nat) (fh:Option Addr) (fo:Nat) (fk:Nat) (eD:Option Addr) (eF:Nat) (eE:Nat) (fj:Option Addr) (fq:Nat) (fm:Nat),A=some ⟨b,off,none⟩/\b<B/\l[k]?=some x/\rep w B x.toD [x.count,x.value.kind,.slice eL eS eO,.slice eN eU eQ,.slice eM eT eP,.slice fh fo fk,.slice eD eF eE,x.value.code,x.value.env,.slice fj fq fm]/\w.cell? ⟨b,off+k*10,none⟩=some (.int .i64 x.count)/\w.cell? ⟨b,off+k*10+1,none⟩=some (.int .i64 x.value.kind)/\w.cell? ⟨b,off+k*10+2,none⟩=some (.slice eL eS eO)/\w.cell? ⟨b,off+k*10+3,none⟩=some (.slice eN eU eQ)/\w.cell? ⟨b,off+k*10+4,none⟩=some (.slice eM eT eP)/\w.cell? ⟨b,off+k*10+5,none⟩=some (.slice fh fo fk)/\w.cell? ⟨b,off+k*10+6,none⟩=some (.slice eD eF eE)/\w.cell? ⟨b,off+k*10+7,none⟩=some (.int .i64 x.value.code)/\w.cell? ⟨b,off+k*10+8,none⟩=some (.int .i64 x.value.env)/\w.cell? ⟨b,off+k*10+9,none⟩=some (.slice fj fq fm):=by
 obtain⟨b,off,x,cs,e,hb,hx,hr,hc⟩:=Rp h hk;obtain⟨eL,eS,eO,eN,eU,eQ,eM,eT,eP,fh,fo,fk,eD,eF,eE,fj,fq,fm,rfl,_⟩:=i8 hr;exact⟨b,off,x,eL,eS,eO,eN,eU,eQ,eM,eT,eP,fh,fo,fk,eD,eF,eE,fj,fq,fm,e,hb,hx,hr,hc 0 _ rfl,hc 1 _ rfl,hc 2 _ rfl,hc 3 _ rfl,hc 4 _ rfl,hc 5 _ rfl,hc 6 _ rfl,hc 7 _ rfl,hc 8 _ rfl,hc 9 _ rfl⟩
theorem wF (x:Cel):szD x.toD=szD (x.value.toD)+(szD (.sl (x.parts.map (.i .i64)))):=by rw[m7];simp only[szD,gv];omega
theorem Mj:(prog.info? 43).map (λi=>(i.zero,i.size,i.bytes))=some (some (.agg #[.int .i64 0,.int .i64 0,(),(),(),(),(),.int .i64 0,.int .i64 0,()]),10,176):=dU
def CY (x:Cel):Prop:=∀(cs cs':List Value) (w:World),rep w w.heap.size x.toD cs->rep w w.heap.size x.toD cs'->Calls prog 137 #[.agg cs.toArray,.agg cs'.toArray] w λe w'=>e= .returned (.bool true)/\Below w.heap.size w w'
theorem RU (x:Cel):CY x:=by
 intro cs cs' w h h';obtain⟨eL,eS,eO,eN,eU,eQ,eM,eT,eP,fh,fo,fk,eD,eF,eE,fj,fq,fm,rfl,FJ,me,kL⟩:=i8 h;obtain⟨mX,nE,m_,mZ,nI,no,mY,nH,nj,pP,p8,pT,lN,l9,lT,tA,ud,tK,rfl,afM,LE,LD⟩:=i8 h';have ah_:(x.count != x.count)=false:=dR;have q0:=((Below.refl w.heap.size w).alloc (af _) (.cells #[x.count,x.value.kind,.slice eL eS eO,.slice eN eU eQ,.slice eM eT eP,.slice fh fo fk,.slice eD eF eE,x.value.code,x.value.env,.slice fj fq fm] 43)).alloc eA (.cells #[x.count,x.value.kind,.slice mX nE m_,.slice mZ nI no,.slice mY nH nj,.slice pP p8 pT,.slice lN l9 lT,x.value.code,x.value.env,.slice tA ud tK] 43);go_enter func137,ntmps137;go_wp2_with fail;refine(zv x.value _ _ _ (fb me q0 q0.size) (fb LE q0 q0.size)).mono ?_;rintro e w1 ⟨rfl,b1⟩;obtain⟨hc1,_⟩:=fY b1;have z1:=b1.size
 (try simp only[dT]at hc1 z1)
 have Wc:w.heap.size<w1.heap.size:=dP;have Wd:w.heap.size+1<w1.heap.size:=dP;have q1:=ij q0 b1;go_wp2_with fail;refine(MG x.parts _ _ _ _ _ _ _ (fb kL q1 q1.size) (fb LD q1 q1.size)).mono ?_;rintro e w2 ⟨rfl,b2⟩;obtain⟨hc2,_⟩:=fY b2;have z2:=b2.size
 (try simp only[dT]at hc2 z2)
 have Z4:w.heap.size<w2.heap.size:=dP;have Z5:w.heap.size+1<w2.heap.size:=dP;have q2:=ij q1 b2;go_wp2_with fail;go_ret;exact⟨rfl,q2⟩
theorem Pa (l:List Cel) (ih:∀x∈l,CY x) (A A':Option Addr) (n n' c c':Nat) (w:World) (h:rep w w.heap.size (.sl (l.map Cel.toD)) [.slice A n c]) (h':rep w w.heap.size (.sl (l.map Cel.toD)) [.slice A' n' c']):
 Calls prog 71 #[.slice A n c,.slice A' n' c'] w λe w'=>e= .returned (.bool true)/\Below w.heap.size w w':=by
 obtain⟨kO,hlc,sT⟩:=ef h;obtain⟨Nf,adU,adD⟩:=ef h';rw[au]at kO Nf;obtain rfl:n'=n:=dP;have hd:((n':Int) != (n':Int))=false:=dR;unfold maxLen at sT;have HI:=aa ih;clear kO Nf ih;go_enter func71,ntmps71;go_wp2_with fail;go_loopw [5] (λi wr=>∃(k:Nat),k<=n'/\i= .int .i64 k/\Below w.heap.size w wr) (λi _=>n' - (intOf i).toNat)
 case atStart=>exact⟨0,by omega,rfl,Below.refl _ _⟩
 case round=>
  obtain⟨k,hk,rfl,hb⟩:=hrel;by_cases hlt:k<n'
  ·obtain⟨b,off,x,eL,eS,eO,eN,eU,eQ,eM,eT,eP,fh,fo,fk,eD,eF,eE,fj,fq,fm,rfl,gD,hx,fE,xO,hc1,hc2,hc3,hc4,Jx,Wx,Wy,hc8,hc9⟩:=lm (fF h hb) hlt;obtain⟨b',qv,x',mX,nE,m_,mZ,nI,no,mY,nH,nj,pP,p8,pT,lN,l9,lT,tA,ud,tK,rfl,XC,qD,UH,Hy,Jy,It,hd3,hd4,hd5,hd6,hd7,hd8,hd9⟩:=lm (fF h' hb) hlt;obtain rfl:x=x':=P1;have HM:=aa (aA hx);clear hx qD;have i1:(0:Int)<=(k:Int):=dP;have i2:(k:Int)<(n':Int):=dP;have uK:b<wr.heap.size:=od;have rh:b'<wr.heap.size:=od;have WE:=gY fE hb.size;have TA:=gY UH hb.size;go_wp2_with fail;go_region_held3 (λW=>(W.cell? ⟨b,off+k*10,none⟩=some (.int .i64 x.count)/\W.cell? ⟨b,off+k*10+1,none⟩=some (.int .i64 x.value.kind)/\W.cell? ⟨b,off+k*10+2,none⟩=some (.slice eL eS eO)/\W.cell? ⟨b,off+k*10+3,none⟩=some (.slice eN eU eQ)/\W.cell? ⟨b,off+k*10+4,none⟩=some (.slice eM eT eP)/\W.cell? ⟨b,off+k*10+5,none⟩=some (.slice fh fo fk)/\W.cell? ⟨b,off+k*10+6,none⟩=some (.slice eD eF eE)/\W.cell? ⟨b,off+k*10+7,none⟩=some (.int .i64 x.value.code)/\W.cell? ⟨b,off+k*10+8,none⟩=some (.int .i64 x.value.env)/\W.cell? ⟨b,off+k*10+9,none⟩=some (.slice fj fq fm))/\(W.cell? ⟨b',qv+k*10,none⟩=some (.int .i64 x.count)/\W.cell? ⟨b',qv+k*10+1,none⟩=some (.int .i64 x.value.kind)/\W.cell? ⟨b',qv+k*10+2,none⟩=some (.slice mX nE m_)/\W.cell? ⟨b',qv+k*10+3,none⟩=some (.slice mZ nI no)/\W.cell? ⟨b',qv+k*10+4,none⟩=some (.slice mY nH nj)/\W.cell? ⟨b',qv+k*10+5,none⟩=some (.slice pP p8 pT)/\W.cell? ⟨b',qv+k*10+6,none⟩=some (.slice lN l9 lT)/\W.cell? ⟨b',qv+k*10+7,none⟩=some (.int .i64 x.value.code)/\W.cell? ⟨b',qv+k*10+8,none⟩=some (.int .i64 x.value.env)/\W.cell? ⟨b',qv+k*10+9,none⟩=some (.slice tA ud tK)))
    (first|exact⟨⟨xO,hc1,hc2,hc3,hc4,Jx,Wx,Wy,hc8,hc9⟩,⟨Hy,Jy,It,hd3,hd4,hd5,hd6,hd7,hd8,hd9⟩⟩|exact⟨⟨(hb1.cell uK).trans xO,(hb1.cell uK).trans hc1,(hb1.cell uK).trans hc2,(hb1.cell uK).trans hc3,(hb1.cell uK).trans hc4,(hb1.cell uK).trans Jx,(hb1.cell uK).trans Wx,(hb1.cell uK).trans Wy,(hb1.cell uK).trans hc8,(hb1.cell uK).trans hc9⟩,⟨(hb1.cell rh).trans Hy,(hb1.cell rh).trans Jy,(hb1.cell rh).trans It,(hb1.cell rh).trans hd3,(hb1.cell rh).trans hd4,(hb1.cell rh).trans hd5,(hb1.cell rh).trans hd6,(hb1.cell rh).trans hd7,(hb1.cell rh).trans hd8,(hb1.cell rh).trans hd9⟩⟩)
    (first|(go_at_call 137;refine(HI.out x HM.out _ _ _ wC wD).mono ?_;rintro e w1 ⟨rfl,hb1⟩))
   go_wp2_with fail;go_roundw
   case rel=>exact⟨k+1,by omega,by go_num,ij hb.drew hb1⟩
   case measure=>simp [intOf];omega
  ·exact yJ
theorem Pb (x:Cel):CY x:=RU x
theorem ME (l:List Cel) (A A':Option Addr) (n n' c c':Nat) (w:World) (h:rep w w.heap.size (.sl (l.map Cel.toD)) [.slice A n c]) (h':rep w w.heap.size (.sl (l.map Cel.toD)) [.slice A' n' c']):
 Calls prog 71 #[.slice A n c,.slice A' n' c'] w λe w'=>e= .returned (.bool true)/\Below w.heap.size w w':=Pa l (λx _=>Pb x) A A' n n' c c' w h h'
structure Hp where
 cells:List Cel
 names:List Str
 slots:List Int
 copies:Int
def Hp.toD (x:Hp):D:= .st [.sl (x.cells.map Cel.toD),.sl (x.names.map .s),.sl (x.slots.map (.i .i64)),.i .i64 x.copies]
theorem uP (x:Hp):x.toD= .st [.sl (x.cells.map Cel.toD),.sl (x.names.map .s),.sl (x.slots.map (.i .i64)),.i .i64 x.copies]:=qf
theorem iP {x:Hp} (h:rep w B x.toD cs):∃(oF:Option Addr) (o8:Nat) (nR:Nat) (fU:Option Addr) (fW:Nat) (fV:Nat) (oG:Option Addr) (o9:Nat) (oM:Nat),cs=[.slice oF o8 nR,.slice fU fW fV,.slice oG o9 oM,.int .i64 x.copies]/\rep w B (.sl (x.cells.map Cel.toD)) [.slice oF o8 nR]/\rep w B (.sl (x.names.map .s)) [.slice fU fW fV]/\rep w B (.sl (x.slots.map (.i .i64))) [.slice oG o9 oM]/\(Lit.int .i64 x.copies).wf=true:=by rw[uP,rep]at h;obtain⟨css,rfl,h⟩:=h;rw[gb]at h;obtain⟨c0,css,rfl,k0,h⟩:=h;rw[gb]at h;obtain⟨c1,css,rfl,k1,h⟩:=h;rw[gb]at h;obtain⟨c2,css,rfl,k2,h⟩:=h;rw[gb]at h;obtain⟨c3,css,rfl,k3,h⟩:=h;rw[gb]at h;subst h;obtain⟨A0,n0,d0,rfl⟩:=fD k0;obtain⟨A1,n1,d1,rfl⟩:=fD k1;obtain⟨A2,n2,d2,rfl⟩:=fD k2;rw[rep]at k3;obtain⟨rfl,k3⟩:=k3;exact⟨A0,n0,d0,A1,n1,d1,A2,n2,d2,rfl,k0,k1,k2,k3⟩
theorem Da {x:Hp} {oF:Option Addr} {o8:Nat} {nR:Nat} {fU:Option Addr} {fW:Nat} {fV:Nat} {oG:Option Addr} {o9:Nat} {oM:Nat} {C1 Fnames C2:List Nat} (xY:own prog w (.sl (x.cells.map Cel.toD)) 24 C1 [.slice oF o8 nR]) (lu:own prog w (.sl (x.names.map .s)) 25 Fnames [.slice fU fW fV]) (xZ:own prog w (.sl (x.slots.map (.i .i64))) 26 C2 [.slice oG o9 oM]) (Az:(Lit.int .i64 x.copies).wf=true):own prog w x.toD 28 (C1++(Fnames++(C2++[]))) [.slice oF o8 nR,.slice fU fW fV,.slice oG o9 oM,x.copies]:=by rw[uP,own];exact⟨_,[[.slice oF o8 nR],[.slice fU fW fV],[.slice oG o9 oM],[.int .i64 x.copies]],underlying28,rfl,(fg xY (fg lu (fg xZ (fg (F1:=[]) (by rw[own];exact⟨rfl,rfl,Az⟩) p_))))⟩
theorem nM (x:Hp):szD x.toD=szD (.sl (x.cells.map Cel.toD))+(szD (.sl (x.names.map .s))+(szD (.sl (x.slots.map (.i .i64))))):=by rw[uP];simp only[szD,gv];omega
def Mo (x:Hp):Prop:=∀(cs cs':List Value) (w:World),rep w w.heap.size x.toD cs->rep w w.heap.size x.toD cs'->Calls prog 21 #[.agg cs.toArray,.agg cs'.toArray] w λe w'=>e= .returned (.bool true)/\Below w.heap.size w w'
theorem RW (x:Hp):Mo x:=by
 intro cs cs' w h h';obtain⟨oF,o8,nR,fU,fW,fV,oG,o9,oM,rfl,xY,lu,xZ,Az⟩:=iP h;obtain⟨WP,Yo,Xf,yW,zU,zm,WR,Yq,Xj,rfl,YK,LC,YP,aeZ⟩:=iP h';have afF:(x.copies != x.copies)=false:=dR;have q0:=((Below.refl w.heap.size w).alloc (af _) (.cells #[.slice oF o8 nR,.slice fU fW fV,.slice oG o9 oM,x.copies] 28)).alloc eA (.cells #[.slice WP Yo Xf,.slice yW zU zm,.slice WR Yq Xj,x.copies] 28);go_enter func21,ntmps21;go_wp2_with fail;refine(ME x.cells _ _ _ _ _ _ _ (fb xY q0 q0.size) (fb YK q0 q0.size)).mono ?_;rintro e w1 ⟨rfl,b1⟩;obtain⟨hc1,_⟩:=fY b1;have z1:=b1.size
 (try simp only[dT]at hc1 z1)
 have Wc:w.heap.size<w1.heap.size:=dP;have Wd:w.heap.size+1<w1.heap.size:=dP;have q1:=ij q0 b1;go_wp2_with fail;refine(rQ x.names _ _ _ _ _ _ _ (fb lu q1 q1.size) (fb LC q1 q1.size)).mono ?_;rintro e w2 ⟨rfl,b2⟩;obtain⟨hc2,_⟩:=fY b2;have z2:=b2.size
 (try simp only[dT]at hc2 z2)
 have Z4:w.heap.size<w2.heap.size:=dP;have Z5:w.heap.size+1<w2.heap.size:=dP;have q2:=ij q1 b2;go_wp2_with fail;refine(MG x.slots _ _ _ _ _ _ _ (fb xZ q2 q2.size) (fb YP q2 q2.size)).mono ?_;rintro e w3 ⟨rfl,b3⟩;obtain⟨hc3,_⟩:=fY b3;have z3:=b3.size
 (try simp only[dT]at hc3 z3)
 have y3a:w.heap.size<w3.heap.size:=dP;have y3b:w.heap.size+1<w3.heap.size:=dP;have q3:=ij q2 b3;go_wp2_with fail;go_ret;exact⟨rfl,q3⟩
theorem tL (x:Hp):Mo x:=RW x
section
variable {P:Program} {ops:Array Oper} {Q:Exit->Act->World->Prop} {md:Region.Mode} {S:World->Prop} {i:Nat} {oi:Oper} {v:Value} {d:Tmp} {mS:Nat} {jr:Array Bool} {T:Array Value} {D:List Deferred} {w:World}
theorem acd (hi:ops[i]?=some oi) (hd:oi.dst=some d) (hs:Region.noSelect ops=true) (hf:Region.free md ops jr i=true) (hr:(Region.ready md ops jr).contains i=true)
 (hQ:∀c a a' w,Q (.panic c) a w->Q (.panic c) a' w) (hw:Region.wanted oi (yielded ops T)=true) (hy:∀w,S w->(execOp (Act.mk T D).eval oi).run P w= .ok (.value v) w) (hS:S w)
 (h:wpAnyH P md ops Q S mS (jr.setIfInBounds i true) ⟨T.setIfInBounds d v,D⟩ w):wpAnyH P md ops Q S (mS+1) jr ⟨T,D⟩ w:=by
 refine wpAnyH_take (v:=v) hi hs hf hr (λc a w h=>hQ c _ _ w h) (Or.inl ⟨hw,hy⟩) hS ?_;rw[hd];exact h
theorem aeY (hi:ops[i]?=some oi) (hd:oi.dst=some d) (hs:Region.noSelect ops=true) (hf:Region.free md ops jr i=true) (hr:(Region.ready md ops jr).contains i=true)
 (hQ:∀c a a' w,Q (.panic c) a w->Q (.panic c) a' w) (hw:Region.wanted oi (yielded ops T)=false) (hS:S w)
 (h:wpAnyH P md ops Q S mS (jr.setIfInBounds i true) ⟨T.setIfInBounds d undef,D⟩ w):wpAnyH P md ops Q S (mS+1) jr ⟨T,D⟩ w:=by
 refine wpAnyH_take (v:=undef) hi hs hf hr (λc a w h=>hQ c _ _ w h) (Or.inr ⟨hw,rfl⟩) hS ?_;rw[hd];exact h
end
def Tg (_:Nat):Prop:=True
theorem tg:Tg i:=bO
structure Kp (Q:Prop):Prop where
 out:Q
section
variable {P:Program} {ops:Array Oper} {Q:Exit->Act->World->Prop} {md:Region.Mode} {S:World->Prop} {i:Nat} {oi:Oper} {v:Value} {d:Tmp} {mS:Nat} {jr:Array Bool} {T:Array Value} {D:List Deferred} {w:World} {a:Act}
theorem YX (_:Tg i) (hi:ops[i]?=some oi) (hd:oi.dst=some d) (hs:Region.noSelect ops=true) (hf:Region.free md ops jr i=true) (hr:(Region.ready md ops jr).contains i=true)
 (hQ:∀c a a' w,Q (.panic c) a w->Q (.panic c) a' w) (hw:Region.wanted oi (yielded ops T)=true) (hy:∀w,S w->(execOp (Act.mk T D).eval oi).run P w= .ok (.value v) w) (hS:S w)
 (h:wpAnyH P md ops Q S mS (jr.setIfInBounds i true) ⟨T.setIfInBounds d v,D⟩ w):wpAnyH P md ops Q S (mS+1) jr ⟨T,D⟩ w:=acd hi hd hs hf hr hQ hw hy hS h
theorem acb (_:Tg i) (hi:ops[i]?=some oi) (hd:oi.dst=some d) (hs:Region.noSelect ops=true) (hf:Region.free md ops jr i=true) (hr:(Region.ready md ops jr).contains i=true)
 (hQ:∀c a a' w,Q (.panic c) a w->Q (.panic c) a' w) (hw:Region.wanted oi (yielded ops T)=false) (hS:S w)
 (h:wpAnyH P md ops Q S mS (jr.setIfInBounds i true) ⟨T.setIfInBounds d undef,D⟩ w):wpAnyH P md ops Q S (mS+1) jr ⟨T,D⟩ w:=aeY hi hd hs hf hr hQ hw hS h
theorem aii (_:Tg i) (hr:Region.ready md ops jr=[i]) (h:wpOp P ops Q i (λa' w'=>S w'/\wpAnyH P md ops Q S mS (jr.setIfInBounds i true) a' w') a w):wpAnyH P md ops Q S (mS+1) jr a w:=
 dG hr dR (λj hj=>by obtain rfl:j=i:=(by simpa using hj);exact h)
theorem aeX (_:Tg i) (hi:ops[i]?=some oi) (hs:Region.noSelect ops=true) (hf:Region.free md ops jr i=true) (hr:(Region.ready md ops jr).contains i=true)
 (hQ:∀c a w,Q (.panic c) (a.put oi.dst v) w->Q (.panic c) a w) (hy:YieldsIf P ops S oi v a) (hS:S w)
 (h:wpAnyH P md ops Q S mS (jr.setIfInBounds i true) (a.put oi.dst v) w):wpAnyH P md ops Q S (mS+1) jr a w:=wpAnyH_take hi hs hf hr hQ hy hS h
end
theorem ey (i:Nat){P:Prop} (k:Q) (h:Tg i->Kp Q->P:=by
 intro t k;refine YX t (v:=?_) rfl rfl dU dU dU (λ_ _ _ _ h=>h) dU ?_ lg ?_
 rotate_left
 (intro wq hSw;(try dsimp only at hSw);go_simp;(try with_reducible rfl))
 (try simp only[bh,a_,be])
 exact k.out):P:=h tg ⟨k⟩
theorem gP (i:Nat){P:Prop} (k:Q) (h:Tg i->Kp Q->P:=by
 intro t k;refine acb t rfl rfl dU dU dU (λ_ _ _ _ h=>h) dU lg ?_
 (try simp only[bh,a_,be])
 exact k.out):P:=h tg ⟨k⟩
theorem k_ (i:Nat){P:Prop} (k:Q) (h:Tg i->Kp Q->P:=by
 intro t k;refine aeX t (v:=?_) rfl dU dU dU (λ_ _ _ h=>h) (Or.inl ⟨by kernel_rfl,?_⟩) lg ?_
 rotate_left
 (intro wq hSw;(try dsimp only at hSw);go_simp;(try with_reducible rfl))
 (try simp only[Act.put,bh,a_,be])
 exact k.out):P:=h tg ⟨k⟩
theorem iW {P:Prop} (k:Q) (h:Kp Q->P:=by
 intro k
 (try simp only[Act.put,bh,a_,be])
 exact k.out):P:=h ⟨k⟩
theorem fZ (i:Nat){P:Prop} (k:Q) (h:Tg i->Kp Q->P:=by intro t k;refine aii t dU ?_;refine dD gO ?_;exact k.out):P:=h tg ⟨k⟩
def zeroV:Vec:=⟨0,[],[],[],[],[],0,0⟩
def Le (v:Vec):Bool:=decide (v.kind=0/\v.code=0/\v.env=0/\v.names.length=0/\v.cls.length=0/\v.levels.length=0/\v.items.length=0/\v.parts.length=0)
def celD (h:Hp) (k:Int):Cel:=if 0<=k then (h.cells[k.toNat]?).getD ⟨0,zeroV,[]⟩ else⟨0,zeroV,[]⟩
theorem iI {h:Hp} {k:Nat} {c:Cel} (hk:h.cells[k]?=some c):celD h k=c:=by simp [celD,hk]
def inR (h:Hp) (k:Int):Bool:=decide (0<=k/\k<h.cells.length)
theorem j7 {h:Hp} (hk:0<(celD h k).count):inR h k=true:=by
 unfold celD at hk;split at hk
 ·next h0=>
  cases hc:h.cells[k.toNat]? with
  |none=>rw[hc]at hk;simp at hk
  |some c=>
   have:=(ay.1 hc).1;simp [inR];omega
 ·simp at hk
theorem kU {h:Hp} (hk:inR h k=true):∃(i:Nat) (c:Cel),k=i/\i<h.cells.length/\h.cells[i]?=some c/\celD h k=c:=by simp [inR]at hk;have hi:k.toNat<h.cells.length:=dP;refine⟨k.toNat,h.cells[k.toNat],by omega,hi,by simp [hi],?_⟩;unfold celD;rw[aN hk.1];simp [hi]
def nS (d:Nat) (c:Cel):Bool:=decide (0<c.count)&&(decide (c.parts.length=0)||(decide (c.value.kind=4)&&decide (c.parts.length<=40)&&decide (d≠0)))
def lD (h:Hp):Nat->Int->Bool
 |0,k=>nS 0 (celD h k)
 |d+1,k=>nS (d+1) (celD h k)&&(celD h k).parts.all (lD h d)
def depD (h:Hp):Nat->Int->Bool
 |0,k=>nS 0 (celD h k)&&decide ((celD h k).value.parts.length=0)
 |d+1,k=>nS (d+1) (celD h k)&&(celD h k).parts.all (depD h d)&&decide ((celD h k).value.parts.length=0)
def asm (h:Hp):Nat->Int->Vec
 |0,k=>(celD h k).value
 |d+1,k=>{(celD h k).value with parts:=(celD h k).parts.map (asm h d)}
theorem wO {c:Cel} (h:nS 0 c=true):c.parts=[]:=by simp [nS]at h;exact h.2
theorem Cx {h:Hp} (hp:∀c∈h.cells,c.value.parts.length=0) (d:Nat) (k:Int):depD h d k=lD h d k:=by
 have hc:∀k,(celD h k).value.parts.length=0:=by
  intro k;unfold celD;split
  ·cases hc:h.cells[k.toNat]? with
   |none=>rfl
   |some c=>exact hp c (aA hc)
  ·rfl
 induction d generalizing k with
 |zero=>simp [depD,lD,hc]
 |succ d ih=>
  rw[depD,lD,hc];have:depD h d=lD h d:=funext ih;rw[this];simp
theorem zp {h:Hp} {d:Nat} (hd:depD h d k=true):0<(celD h k).count:=by cases d<;>(rw[depD]at hd;simp [nS]at hd;omega)
def refs (h:Hp):List Int:=h.slots++h.cells.flatMap (·.parts)
def lM (n:Nat) (l:List Int):List Int:=(List.range n).map λ(i:Nat)=>((l.count (i:Int):Nat):Int)
theorem uX (n:Nat) (l:List Int):(lM n l).length=n:=by simp [lM]
theorem pM (l:List Int) (hi:i<n):(lM n l)[i]?=some ((l.count (i:Int):Nat):Int):=by simp [lM,hi]
theorem MB (n:Nat):lM n []=List.replicate n 0:=by unfold lM;simp [List.map_const']
theorem wJ (l:List Int) (hi:i<n):(lM n l).set i (((l.count (i:Int):Nat):Int)+1)=lM n (l++[(i:Int)]):=by
 apply List.ext_getElem?;intro j;by_cases hj:j<n
 ·rw[pM _ hj,List.getElem?_set];by_cases hij:i=j
  ·subst hij;simp [uX,hi,bT]
  ·rw[aH hij,pM _ hj];have:¬((i:Int)=(j:Int)):=dP;simp [bT,List.count_singleton,this]
 ·have h1:n<=j:=dP;rw[b_ (by simp [uX,h1]),b_ (by simp [uX,h1])]
def m9 (n:List Int) (i:Nat) (c:Cel):Bool:=decide (n[i]?=some c.count)&&decide (c.value.parts.length=0)&&(decide (c.count≠0)||(decide (c.parts.length=0)&&Le c.value))
def AJ (h:Hp) (c:Cel):Bool:=c.parts.all (inR h)&&decide (c.value.parts.length=0)&&(decide (c.count≠0)||(decide (c.parts.length=0)&&Le c.value))
def s7 (h:Hp) (i:Nat) (s:Str) (k:Int):Bool:=isNm s&& !((h.names.take i).contains s)&&lD h 3 k&&isVec (asm h 3 k)
def Es (h:Hp) (i:Nat) (s:Str) (k:Int):Bool:=isNm s&& !((h.names.take i).contains s)&&depD h 3 k&&isVec (asm h 3 k)
def i_ {α:Type} (f:Nat->α->Bool) (l:List α):Bool:=(List.range l.length).all λi=>match l[i]? with
 |some x=>f i x
 |none=>true
theorem iC {f:Nat->α->Bool} {l:List α}:i_ f l=true↔∀i x,l[i]?=some x->f i x=true:=by
 unfold i_;rw[aV];constructor
 ·intro h i x hx;have:=h i (c_.2 (ay.1 hx).1);rw[hx]at this;exact this
 ·intro h i hi;cases hx:l[i]? with
  |none=>rfl
  |some x=>exact h i x hx
def fG (h:Hp):Bool:=decide (h.names.length=h.slots.length)&&decide (0<=h.copies)&&(refs h).all (inR h)&&i_ (m9 (lM h.cells.length (refs h))) h.cells&&i_ (λi s=>s7 h i s ((h.slots[i]?).getD 0)) h.names
def QP (h:Hp):Bool:=decide (h.names.length=h.slots.length)&&decide (0<=h.copies)&&i_ (λi s=>Es h i s ((h.slots[i]?).getD 0)) h.names&&h.cells.all (AJ h)&&i_ (λi c=>decide ((lM h.cells.length (refs h))[i]?=some c.count)) h.cells
theorem M8 (h:Hp):QP h=fG h:=by
 rw[bg];unfold QP fG;simp only[ax,aL,iC,aV];constructor
 ·rintro⟨⟨⟨⟨h1,h2⟩,h3⟩,h4⟩,h5⟩;have hp:∀c∈h.cells,c.value.parts.length=0:=λc hc=>by have:=h4 c hc;simp [AJ]at this;simp [this.1.2]
  refine⟨⟨⟨⟨h1,h2⟩,λk hk=>?_⟩,λi c hc=>?_⟩,λi s hs=>?_⟩
  ·rcases aG.1 hk with hk|hk
   ·obtain⟨i,hi⟩:=dB.1 hk;have hl:=(ay.1 hi).1;obtain⟨s,hs⟩:∃s,h.names[i]?=some s:=⟨h.names[i]' dP,by simp⟩;have:=h3 i s hs;rw[hi]at this;simp only[Es,ax,bV]at this;exact j7 (zp this.1.2)
   ·obtain⟨c,hc,hk⟩:=dM.1 hk;have:=h4 c hc;simp only[AJ,ax,aV]at this;exact this.1.1 k hk
  ·have a:=h4 c (aA hc);have b:=h5 i c hc;simp only[AJ,ax]at a;simp only[m9,ax];exact⟨⟨by simpa using b,a.1.2⟩,a.2⟩
  ·have a:=h3 i s hs;unfold Es at a;rw[Cx hp]at a;exact a
 ·rintro⟨⟨⟨⟨h1,h2⟩,h3⟩,h4⟩,h5⟩;have hp:∀c∈h.cells,c.value.parts.length=0:=λc hc=>by obtain⟨i,hi⟩:=dB.1 hc;have:=h4 i c hi;simp only[m9,ax,aL]at this;exact this.1.2
  refine⟨⟨⟨⟨h1,h2⟩,λi s hs=>?_⟩,λc hc=>?_⟩,λi c hc=>?_⟩
  ·have a:=h5 i s hs;unfold Es;rw[Cx hp];exact a
  ·obtain⟨i,hi⟩:=dB.1 hc;have a:=h4 i c hi;simp only[m9,ax]at a;simp only[AJ,ax,aV];exact⟨⟨λk hk=>h3 k (bD _ (dM.2 ⟨c,hc,hk⟩)),a.1.2⟩,a.2⟩
  ·have a:=h4 i c hc;simp only[m9,ax,aL]at a;exact a.1.1
theorem V3 {l:List D} (h:∀d∈l,szD d<=B):gv l<=l.length*B:=Gw
theorem wI (h:Hp) (k:Int):szD (celD h k).value.toD+(celD h k).parts.length<=szD h.toD:=by
 have hz:szD zeroV.toD=0:=by rw[go];simp [zeroV,szD,gv]
 unfold celD;split
 ·cases hc:h.cells[k.toNat]? with
  |none=>simp [hz]
  |some c=>
   have h1:=rC (dt (f:=Cel.toD) (aA hc));have h2:=wF c;have h3:=nM h;simp only[szD,au]at h2 h3;simp only[bV];omega
 ·simp [hz]
theorem aaF {h:Hp} (hz:szD h.toD<=4194304) (d:Nat) (k:Int) (hd:depD h d k=true):szD (asm h d k).toD+4194345<=4194345*41 ^ (d+1):=by
 induction d generalizing k with
 |zero=>
  have:=wI h k;rw[asm];omega
 |succ d ih=>
  have h1:=wI h k;rw[depD]at hd;simp only[ax,aL,aV,nS]at hd;obtain⟨⟨⟨_,hl⟩,ha⟩,hv⟩:=hd;have hl:(celD h k).parts.length<=40:=by simp only[bX,ax,aL]at hl;omega
  have e1:=go (celD h k).value;have e2:=go (asm h (d+1) k);have hx:gv ((celD h k).parts.map λp=>(asm h d p).toD)<=40*(4194345*41 ^ (d+1) - 4194345):=by
   refine du (V3 (B:=4194345*41 ^ (d+1) - 4194345) λx hx=>?_) ?_
   ·obtain⟨p,hp,rfl⟩:=List.mem_map.1 hx;have:=ih p (ha p hp);omega
   ·rw[au];exact dd _ hl
  have e3:(asm h (d+1) k).parts=(celD h k).parts.map (asm h d):=by rw[asm]
  have e4:(asm h (d+1) k).items=(celD h k).value.items:=by rw[asm]
  have e5:(asm h (d+1) k).names=(celD h k).value.names:=by rw[asm]
  have e6:(asm h (d+1) k).cls=(celD h k).value.cls:=by rw[asm]
  have e7:(asm h (d+1) k).levels=(celD h k).value.levels:=by rw[asm]
  rw[e3,e4,e5,e6,e7]at e2;simp only[szD,au,List.map_map]at e1 e2;have e8:(Vec.toD∘asm h d)=λp=>(asm h d p).toD:=rfl;rw[e8]at e2;have hp:41 ^ (d+1+1)=41*41 ^ (d+1):=by rw[Nat.pow_succ];omega
  rw[hp];have:1<=41 ^ (d+1):=Nat.one_le_iff_ne_zero.2 dR;generalize 41 ^ (d+1)=M at*;omega
theorem iO (A:Option Addr) (n c:Nat) (w:World):Calls prog 170 #[.slice A n c,()] w λe w'=>e= .returned (.bool (decide (n=0)))/\w=w':=by
 by_cases hn:n=0
 ·obtain rfl:=hn;go_enter func170,ntmps170;go_wp2;refine aZ 1 ?_;rw[dF];go_wp2;go_ret;exact⟨rfl,rfl⟩
 ·have hb:((n:Int) != 0)=true:=dS;have HD:=aa (show decide (n=0)=false by simpa using hn);go_enter func170,ntmps170;go_wp2;go_ret;exact⟨dZ HD.out.symm,rfl⟩
theorem iL (A:Option Addr) (n c:Nat) (w:World):Calls prog 136 #[.slice A n c,()] w λe w'=>e= .returned (.bool (decide (n=0)))/\w=w':=by
 by_cases hn:n=0
 ·obtain rfl:=hn;go_enter func136,ntmps136;go_wp2;refine aZ 1 ?_;rw[dF];go_wp2;go_ret;exact⟨rfl,rfl⟩
 ·have hb:((n:Int) != 0)=true:=dS;have HD:=aa (show decide (n=0)=false by simpa using hn);go_enter func136,ntmps136;go_wp2;go_ret;exact⟨dZ HD.out.symm,rfl⟩
abbrev zvA:Value:= .agg #[.int .i64 0,(),(),(),(),(),.int .i64 0,.int .i64 0]
theorem mU {v:Vec} (h:¬(v.kind=0/\v.code=0/\v.env=0/\v.names.length=0/\v.cls.length=0/\v.levels.length=0/\v.items.length=0/\v.parts.length=0)):Le v=false:=by unfold Le;simpa using h
theorem Pf (v:Vec) (cs:List Value) (w:World) (h:rep w w.heap.size v.toD cs):
 Calls prog 130 #[av cs,zvA] w λe w'=>e= .returned (.bool (Le v))/\Below w.heap.size w w':=by
 obtain⟨Ai,ni,ci,Ap,np,cp,An,nn,cn,Ac,nc,cc,Al,nl,cl,rfl,hv⟩:=iy h;have q0:=((Below.refl w.heap.size w).alloc (af _) (.cells (vc v Ai ni ci Ap np cp An nn cn Ac nc cc Al nl cl).toArray 38)).alloc eA (.cells #[.int .i64 0,(),(),(),(),(),.int .i64 0,.int .i64 0] 38);have li:=hv.it.len;have lp:=hv.pab.2.2;have ln:=hv.na.len;have lc:=hv.ca.len;have ll:=hv.la.len;by_cases h0:v.kind=0
 rotate_left
 ·have HZ:=aa (mU (v:=v) dP);have b0:((v.kind:Int) != 0)=true:=dS;clear h0 li lp ln lc ll;go_enter func130,ntmps130;go_wp2_with (go_at_call 170;((with_reducible refine(iO _ _ _ _).mono ?_);rintro e w1 ⟨rfl,rfl⟩));go_ret;exact⟨dZ HZ.out.symm,q0⟩
 by_cases h1:v.code=0
 rotate_left
 ·have HZ:=aa (mU (v:=v) dP);have b0:((v.kind:Int) != 0)=false:=dS;have b1:((v.code:Int) != 0)=true:=dS;clear h0 h1 li lp ln lc ll;go_enter func130,ntmps130;go_wp2_with (go_at_call 170;((with_reducible refine(iO _ _ _ _).mono ?_);rintro e w1 ⟨rfl,rfl⟩));go_ret;exact⟨dZ HZ.out.symm,q0⟩
 by_cases h2:v.env=0
 rotate_left
 ·have HZ:=aa (mU (v:=v) dP);have b0:((v.kind:Int) != 0)=false:=dS;have b1:((v.code:Int) != 0)=false:=dS;have b2:((v.env:Int) != 0)=true:=dS;clear h0 h1 h2 li lp ln lc ll;go_enter func130,ntmps130;go_wp2_with (go_at_call 170;((with_reducible refine(iO _ _ _ _).mono ?_);rintro e w1 ⟨rfl,rfl⟩));go_ret;exact⟨dZ HZ.out.symm,q0⟩
 by_cases h3:nn=0
 rotate_left
 ·have HZ:=aa (mU (v:=v) dP);have b0:((v.kind:Int) != 0)=false:=dS;have b1:((v.code:Int) != 0)=false:=dS;have b2:((v.env:Int) != 0)=false:=dS;have b3:((nn:Int) != 0)=true:=dS;have d3:decide (nn=0)=false:=dS;clear h0 h1 h2 h3 li lp ln lc ll;go_enter func130,ntmps130;go_wp2_with (go_at_call 170;((with_reducible refine(iO _ _ _ _).mono ?_);rintro e w1 ⟨rfl,rfl⟩));go_ret;exact⟨dZ HZ.out.symm,q0⟩
 by_cases h4:nc=0
 rotate_left
 ·have HZ:=aa (mU (v:=v) dP);have b0:((v.kind:Int) != 0)=false:=dS;have b1:((v.code:Int) != 0)=false:=dS;have b2:((v.env:Int) != 0)=false:=dS;have b3:((nn:Int) != 0)=false:=dS;have d3:decide (nn=0)=true:=dS;have b4:((nc:Int) != 0)=true:=dS;have d4:decide (nc=0)=false:=dS;clear h0 h1 h2 h3 h4 li lp ln lc ll;go_enter func130,ntmps130;go_wp2_with (go_at_call 170;((with_reducible refine(iO _ _ _ _).mono ?_);rintro e w1 ⟨rfl,rfl⟩));go_ret;exact⟨dZ HZ.out.symm,q0⟩
 by_cases h5:nl=0
 rotate_left
 ·have HZ:=aa (mU (v:=v) dP);have b0:((v.kind:Int) != 0)=false:=dS;have b1:((v.code:Int) != 0)=false:=dS;have b2:((v.env:Int) != 0)=false:=dS;have b3:((nn:Int) != 0)=false:=dS;have d3:decide (nn=0)=true:=dS;have b4:((nc:Int) != 0)=false:=dS;have d4:decide (nc=0)=true:=dS;have b5:((nl:Int) != 0)=true:=dS;have d5:decide (nl=0)=false:=dS;clear h0 h1 h2 h3 h4 h5 li lp ln lc ll;go_enter func130,ntmps130;go_wp2_with (go_at_call 170;((with_reducible refine(iO _ _ _ _).mono ?_);rintro e w1 ⟨rfl,rfl⟩));go_ret;exact⟨dZ HZ.out.symm,q0⟩
 by_cases h6:ni=0
 rotate_left
 ·have HZ:=aa (mU (v:=v) dP);have b0:((v.kind:Int) != 0)=false:=dS;have b1:((v.code:Int) != 0)=false:=dS;have b2:((v.env:Int) != 0)=false:=dS;have b3:((nn:Int) != 0)=false:=dS;have d3:decide (nn=0)=true:=dS;have b4:((nc:Int) != 0)=false:=dS;have d4:decide (nc=0)=true:=dS;have b5:((nl:Int) != 0)=false:=dS;have d5:decide (nl=0)=true:=dS;have b6:((ni:Int) != 0)=true:=dS;clear h0 h1 h2 h3 h4 h5 h6 li lp ln lc ll;go_enter func130,ntmps130;go_wp2_with (go_at_call 170;((with_reducible refine(iO _ _ _ _).mono ?_);rintro e w1 ⟨rfl,rfl⟩));go_ret;exact⟨dZ HZ.out.symm,q0⟩
 by_cases h7:np=0
 rotate_left
 ·have HZ:=aa (mU (v:=v) dP);have b0:((v.kind:Int) != 0)=false:=dS;have b1:((v.code:Int) != 0)=false:=dS;have b2:((v.env:Int) != 0)=false:=dS;have b3:((nn:Int) != 0)=false:=dS;have d3:decide (nn=0)=true:=dS;have b4:((nc:Int) != 0)=false:=dS;have d4:decide (nc=0)=true:=dS;have b5:((nl:Int) != 0)=false:=dS;have d5:decide (nl=0)=true:=dS;have b6:((ni:Int) != 0)=false:=dS;have b7:((np:Int) != 0)=true:=dS;clear h0 h1 h2 h3 h4 h5 h6 h7 li lp ln lc ll;go_enter func130,ntmps130;go_wp2_with (go_at_call 170;((with_reducible refine(iO _ _ _ _).mono ?_);rintro e w1 ⟨rfl,rfl⟩));go_ret;exact⟨dZ HZ.out.symm,q0⟩
 have HZ:=aa (show Le v=true by unfold Le;exact aM dP);have b0:((v.kind:Int) != 0)=false:=dS;have b1:((v.code:Int) != 0)=false:=dS;have b2:((v.env:Int) != 0)=false:=dS;obtain rfl:ni=0:=dP;obtain rfl:np=0:=dP;obtain rfl:nn=0:=dP;obtain rfl:nc=0:=dP;obtain rfl:nl=0:=dP;clear li lp ln lc ll;clear h0 h1 h2 h3 h4 h5 h6 h7;go_enter func130,ntmps130;go_wp2_with (go_at_call 170;((with_reducible refine(iO _ _ _ _).mono ?_);rintro e w1 ⟨rfl,rfl⟩));refine aZ 1 ?_;rw[dF];go_wp2_with fail;refine aZ 1 ?_;rw[dF];go_wp2_with fail;go_ret;exact⟨dZ HZ.out.symm,q0⟩
theorem NA (v:Vec) (cs:List Value) (w:World) (h:rep w w.heap.size v.toD cs):
 Calls prog 69 #[av cs,zvA] w λe w'=>e= .returned (.bool (Le v))/\Below w.heap.size w w':=by
 obtain⟨Ai,ni,ci,Ap,np,cp,An,nn,cn,Ac,nc,cc,Al,nl,cl,rfl,hv⟩:=iy h;have q0:=((Below.refl w.heap.size w).alloc (af _) (.cells (vc v Ai ni ci Ap np cp An nn cn Ac nc cc Al nl cl).toArray 38)).alloc eA (.cells #[.int .i64 0,(),(),(),(),(),.int .i64 0,.int .i64 0] 38);have li:=hv.it.len;have lp:=hv.pab.2.2;have ln:=hv.na.len;have lc:=hv.ca.len;have ll:=hv.la.len;by_cases h0:v.kind=0
 rotate_left
 ·have HZ:=aa (mU (v:=v) dP);have b0:((v.kind:Int) != 0)=true:=dS;clear h0 li lp ln lc ll;go_enter func69,ntmps69;go_wp2_with (go_at_call 136;((with_reducible refine(iL _ _ _ _).mono ?_);rintro e w1 ⟨rfl,rfl⟩));go_ret;exact⟨dZ HZ.out.symm,q0⟩
 by_cases h1:ni=0
 rotate_left
 ·have HZ:=aa (mU (v:=v) dP);have b0:((v.kind:Int) != 0)=false:=dS;have b1:((ni:Int) != 0)=true:=dS;clear h0 h1 li lp ln lc ll;go_enter func69,ntmps69;go_wp2_with (go_at_call 136;((with_reducible refine(iL _ _ _ _).mono ?_);rintro e w1 ⟨rfl,rfl⟩));go_ret;exact⟨dZ HZ.out.symm,q0⟩
 by_cases h2:np=0
 rotate_left
 ·have HZ:=aa (mU (v:=v) dP);have b0:((v.kind:Int) != 0)=false:=dS;have b1:((ni:Int) != 0)=false:=dS;have b2:((np:Int) != 0)=true:=dS;clear h0 h1 h2 li lp ln lc ll;go_enter func69,ntmps69;go_wp2_with (go_at_call 136;((with_reducible refine(iL _ _ _ _).mono ?_);rintro e w1 ⟨rfl,rfl⟩));go_ret;exact⟨dZ HZ.out.symm,q0⟩
 by_cases h3:v.code=0
 rotate_left
 ·have HZ:=aa (mU (v:=v) dP);have b0:((v.kind:Int) != 0)=false:=dS;have b1:((ni:Int) != 0)=false:=dS;have b2:((np:Int) != 0)=false:=dS;have b3:((v.code:Int) != 0)=true:=dS;clear h0 h1 h2 h3 li lp ln lc ll;go_enter func69,ntmps69;go_wp2_with (go_at_call 136;((with_reducible refine(iL _ _ _ _).mono ?_);rintro e w1 ⟨rfl,rfl⟩));go_ret;exact⟨dZ HZ.out.symm,q0⟩
 by_cases h4:v.env=0
 rotate_left
 ·have HZ:=aa (mU (v:=v) dP);have b0:((v.kind:Int) != 0)=false:=dS;have b1:((ni:Int) != 0)=false:=dS;have b2:((np:Int) != 0)=false:=dS;have b3:((v.code:Int) != 0)=false:=dS;have b4:((v.env:Int) != 0)=true:=dS;clear h0 h1 h2 h3 h4 li lp ln lc ll;go_enter func69,ntmps69;go_wp2_with (go_at_call 136;((with_reducible refine(iL _ _ _ _).mono ?_);rintro e w1 ⟨rfl,rfl⟩));go_ret;exact⟨dZ HZ.out.symm,q0⟩
 by_cases h5:nn=0
 rotate_left
 ·have HZ:=aa (mU (v:=v) dP);have b0:((v.kind:Int) != 0)=false:=dS;have b1:((ni:Int) != 0)=false:=dS;have b2:((np:Int) != 0)=false:=dS;have b3:((v.code:Int) != 0)=false:=dS;have b4:((v.env:Int) != 0)=false:=dS;have b5:((nn:Int) != 0)=true:=dS;have d5:decide (nn=0)=false:=dS;clear h0 h1 h2 h3 h4 h5 li lp ln lc ll;go_enter func69,ntmps69;go_wp2_with (go_at_call 136;((with_reducible refine(iL _ _ _ _).mono ?_);rintro e w1 ⟨rfl,rfl⟩));go_ret;exact⟨dZ HZ.out.symm,q0⟩
 by_cases h6:nc=0
 rotate_left
 ·have HZ:=aa (mU (v:=v) dP);have b0:((v.kind:Int) != 0)=false:=dS;have b1:((ni:Int) != 0)=false:=dS;have b2:((np:Int) != 0)=false:=dS;have b3:((v.code:Int) != 0)=false:=dS;have b4:((v.env:Int) != 0)=false:=dS;have b5:((nn:Int) != 0)=false:=dS;have d5:decide (nn=0)=true:=dS;have b6:((nc:Int) != 0)=true:=dS;have d6:decide (nc=0)=false:=dS;clear h0 h1 h2 h3 h4 h5 h6 li lp ln lc ll;go_enter func69,ntmps69;go_wp2_with (go_at_call 136;((with_reducible refine(iL _ _ _ _).mono ?_);rintro e w1 ⟨rfl,rfl⟩));go_ret;exact⟨dZ HZ.out.symm,q0⟩
 by_cases h7:nl=0
 rotate_left
 ·have HZ:=aa (mU (v:=v) dP);have b0:((v.kind:Int) != 0)=false:=dS;have b1:((ni:Int) != 0)=false:=dS;have b2:((np:Int) != 0)=false:=dS;have b3:((v.code:Int) != 0)=false:=dS;have b4:((v.env:Int) != 0)=false:=dS;have b5:((nn:Int) != 0)=false:=dS;have d5:decide (nn=0)=true:=dS;have b6:((nc:Int) != 0)=false:=dS;have d6:decide (nc=0)=true:=dS;have b7:((nl:Int) != 0)=true:=dS;have d7:decide (nl=0)=false:=dS;clear h0 h1 h2 h3 h4 h5 h6 h7 li lp ln lc ll;go_enter func69,ntmps69;go_wp2_with (go_at_call 136;((with_reducible refine(iL _ _ _ _).mono ?_);rintro e w1 ⟨rfl,rfl⟩));go_ret;exact⟨dZ HZ.out.symm,q0⟩
 have HZ:=aa (show Le v=true by unfold Le;exact aM dP);have b0:((v.kind:Int) != 0)=false:=dS;have b3:((v.code:Int) != 0)=false:=dS;have b4:((v.env:Int) != 0)=false:=dS;obtain rfl:ni=0:=dP;obtain rfl:np=0:=dP;obtain rfl:nn=0:=dP;obtain rfl:nc=0:=dP;obtain rfl:nl=0:=dP;clear li lp ln lc ll;clear h0 h1 h2 h3 h4 h5 h6 h7;go_enter func69,ntmps69;go_wp2_with (go_at_call 136;((with_reducible refine(iL _ _ _ _).mono ?_);rintro e w1 ⟨rfl,rfl⟩));refine aZ 1 ?_;rw[dF];go_wp2_with fail;refine aZ 1 ?_;rw[dF];go_wp2_with fail;go_ret;exact⟨dZ HZ.out.symm,q0⟩
theorem AW (v:Vec) (cs:List Value) (w:World) (h:rep w w.heap.size v.toD cs):Calls prog 60 #[av cs] w λe w'=>e= .returned (.bool (Le v))/\Below w.heap.size w w':=by obtain⟨Ai,ni,ci,Ap,np,cp,An,nn,cn,Ac,nc,cc,Al,nl,cl,rfl,hv⟩:=iy h;have q0:=(Below.refl w.heap.size w).alloc (af _) (.cells (vc v Ai ni ci Ap np cp An nn cn Ac nc cc Al nl cl).toArray 38);go_enter func60,ntmps60;go_wp2_with fail;refine(Pf v _ _ (fM h q0)).mono ?_;rintro e w1 ⟨rfl,hb1⟩;go_wp2_with fail;go_ret;exact⟨rfl,ij q0 hb1⟩
def cfP (h:Hp) (d:Nat):Prop:=∀(k:Int) (cs:List Value) (w:World),rep w w.heap.size h.toD cs->Calls prog 63 #[av cs,k,d] w λe w'=>e= .returned (.bool (lD h d k))/\Below w.heap.size w w'
theorem sS {h:Hp} {d:Nat} (hf:nS d (celD h k)=false):lD h d k=false:=by cases d<;>(rw[lD,hf];try rfl)
theorem zj {h:Hp} (hk:k<0\/(h.cells.length:Int)<=k):(celD h k).count=0:=by
 unfold celD;split
 ·rw[b_ dP];rfl
 ·rfl
theorem u_ {h:Hp} {d:Nat} {k:Int} (hf:nS d (celD h k)=true):lD h d k=(celD h k).parts.all (lD h (d - 1)):=by
 cases d with
 |zero=>rw[lD,hf,wO hf];rfl
 |succ d=>rw[lD,hf];rfl
theorem Br (h:Hp) (d:Nat) (hd:(d:Int)<=100) (hc:(h.cells.length:Int)<=4194304) (ih:∀d',d=d'+1->cfP h d'):cfP h d:=by
 intro k cs w hr;obtain⟨A,n,c,Am,nm,cm,As,ns,ca,rfl,rc,rn,rs,wc⟩:=iP hr;have hl:=(ef rc).1;rw[au]at hl;have q0:=(Below.refl w.heap.size w).alloc (af _) (.cells #[.slice A n c,.slice Am nm cm,.slice As ns ca,h.copies] 28);by_cases k0:k<0
 ·have HZ:=aa (sS (d:=d) (h:=h) (k:=k) (by simp [nS,zj (h:=h) (k:=k) (.inl k0)]));clear hl;go_enter func63,ntmps63;go_wp2_with fail;go_ret;exact⟨dZ HZ.out.symm,q0⟩
 by_cases kn:(n:Int)<=k
 ·have HZ:=aa (sS (d:=d) (h:=h) (k:=k) (by simp [nS,zj (h:=h) (k:=k) (.inr dP)]));clear hl;go_enter func63,ntmps63;go_wp2_with fail;go_ret;exact⟨dZ HZ.out.symm,q0⟩
 obtain⟨j,rfl⟩:∃j:Nat,k=j:=⟨k.toNat,by omega⟩;have hj:j<n:=dP;obtain⟨b,off,x,Ai,ni,ci,Ap,np,cp,An,nn,cn,Ac,nc,cc,Al,nl,cl,Aq,nq,cq,rfl,gD,hx,fE,e0,e1,e2,e3,e4,e5,e6,e7,e8,e9⟩:=lm rc hj;have HX:=aa (iI (h:=h) hx);obtain⟨_,_,_,_,_,_,_,_,_,_,_,_,_,_,_,WQ,Yp,Xi,lK,wcn,rv,rq⟩:=i8 fE;have e9':=cU (λl:List Value=>l[9]?) lK;simp only[ag,ah,cE,bG]at e9';obtain⟨rfl,rfl,rfl⟩:=e9';obtain⟨WQ,Yp,Xi,he,_,_,hq,_⟩:=(qy _ _ _ _).1 rq;injection he with he;injection he with f1 f2 f3;subst f1 f2 f3
 have HQ:=aa hq.len;have bj:(j:Int)<(n:Int):=dP;have yb:b<w.heap.size:=gD;have q1:=q0.alloc eA (.cells #[x.count,x.value.kind,.slice Ai ni ci,.slice Ap np cp,.slice An nn cn,.slice Ac nc cc,.slice Al nl cl,x.value.code,x.value.env,.slice Aq nq cq] 43);clear hl hx lK rv rq;by_cases hcn:x.count<=0
 ·have HZ:=aa (sS (d:=d) (h:=h) (k:=(j:Int)) (by rw[HX.out];simp [nS];omega));go_enter func63,ntmps63;go_wp2_with fail;go_ret;exact⟨dZ HZ.out.symm,q0⟩
 by_cases hz:nq=0
 ·have hf:nS d (celD h (j:Int))=true:=by rw[HX.out];simp only[nS,HQ.out,hz];simp;omega
  have HZ:Hid (lD h d (j:Int)=true):=aa (by rw[u_ hf,HX.out,aR.1 (HQ.out.trans hz)];rfl);obtain rfl:=hz;clear hf;go_enter func63,ntmps63;go_wp2_with fail;refine aZ 1 ?_;rw[dF];go_wp2_with fail;go_ret;exact⟨dZ HZ.out.symm,q1⟩
 have hzp:0<nq:=dP;by_cases hbad:x.value.kind≠4\/40<nq\/d=0
 ·have HZ:=aa (sS (d:=d) (h:=h) (k:=(j:Int)) sE);rcases(show (x.value.kind != 4)=true\/((x.value.kind != 4)=false/\(40:Int)<nq)\/((x.value.kind != 4)=false/\¬(40:Int)<nq/\((d:Int)==0)=true) by
   by_cases a4:x.value.kind=4
   ·right;by_cases a40:40<nq
    ·left;exact⟨by simpa using a4,by omega⟩
    ·right;exact⟨by simpa using a4,by omega,by simp;omega⟩
   ·left;simpa using a4) with t4|⟨t4,t40⟩|⟨t4,t40,td⟩
  all_goals
   clear hbad hz;go_enter func63,ntmps63;go_wp2_with fail;go_ret;exact⟨dZ HZ.out.symm,q1⟩
 obtain⟨d',rfl⟩:∃d',d=d'+1:=⟨d - 1,by omega⟩;have t4:(x.value.kind != 4)=false:=dS;have t40:¬(40:Int)<nq:=dP;have td:(((d'+1:Nat):Int)==0)=false:=dS;have hf:nS (d'+1) (celD h (j:Int))=true:=by rw[HX.out];simp only[nS,HQ.out];simp;omega
 have HR:=aa (show lD h (d'+1) (j:Int)=x.parts.all (lD h d') by rw[u_ hf,HX.out];rfl);have xo:=aa (ih d' rfl);have kh:Blk ((w.alloc (.cells #[.slice (some ⟨b,off,none⟩) n c,.slice Am nm cm,.slice As ns ca,h.copies] 28)).alloc (.cells #[x.count,x.value.kind,.slice Ai ni ci,.slice Ap np cp,.slice An nn cn,.slice Ac nc cc,.slice Al nl cl,x.value.code,x.value.env,.slice Aq nq cq] 43)) w.heap.size 28 [.slice (some ⟨b,off,none⟩) n c,.slice Am nm cm,.slice As ns ca,h.copies]:=(Blk.new' (l:=[.slice (some ⟨b,off,none⟩) n c,.slice Am nm cm,.slice As ns ca,.int .i64 h.copies])).al;clear hf ih hbad hz;go_enter func63,ntmps63;go_wp2_with fail;go_loopw [56] (λv56 wr=>∃m:Nat,m<=nq/\v56= .int .i64 m/\(x.parts.take m).all (lD h d')=true/\Blk wr w.heap.size 28 [.slice (some ⟨b,off,none⟩) n c,.slice Am nm cm,.slice As ns ca,h.copies]/\Below w.heap.size w wr) (λv56 _=>nq - (intOf v56).toNat)
 case atStart=>exact⟨0,by omega,rfl,by simp,kh,q1⟩
 case round=>
  clear kh q1;obtain⟨m,hm,rfl,jb,kh,bb⟩:=hrel;obtain⟨g0,g1,g2,g3⟩:=kh.c4;have Kw:=aa jb;clear jb;by_cases hlt:m<nq
  ·obtain⟨b2,o2,y,rfl,jS,hy,hc2⟩:=(hq.below bb).at_ hlt;have c2:=hc2 0 _ rfl;simp only[cu,cF]at c2;have HY:=aa hy;clear hc2 hy;have Hr:=aa hr;clear hr;go_wp2_with fail;refine(xo.out y _ _ (fb Hr.out bb bb.size)).mono ?_;rintro e w3 ⟨rfl,lE⟩;obtain⟨hc3,hf3⟩:=fY lE;have z3:=lE.size;(try simp only[dW,dT,dX]at hc3 hf3 z3);cases hfy:lD h d' y
   ·have HF:=aa hfy;clear hfy;go_wp2_with fail;go_ret;exact⟨dZ (by rw[HR.out];exact(nN HY.out HF.out).symm),ij bb lE⟩
   ·have HF:=aa hfy;clear hfy;go_wp2_with fail;go_roundw
    case rel=>exact⟨m+1,by omega,by go_num,iY HY.out Kw.out HF.out,kh.next lE,ij bb lE⟩
    case measure=>simp [intOf];omega
  ·obtain rfl:m=nq:=dP;go_wp2_with fail;go_ret;exact⟨dZ (by rw[HR.out,<-Kw.out,aC (by rw[HQ.out];omega)]),bb⟩
theorem zl (h:Hp) (hc:(h.cells.length:Int)<=4194304):∀d:Nat,(d:Int)<=100->cfP h d
 |0,hd=>Br h 0 hd hc (λd' e=>by omega)
 |d+1,hd=>Br h (d+1) hd hc (λd' e=>by obtain rfl:d=d':=dP;exact zl h hc d dP)
theorem kM:ElemTy prog 35 135 3 32:=by obtain⟨i0,hi,rJ,tW,hz2⟩:=cZ Mr;exact⟨i0,_,underlying35,hi,rJ,tW,hz2,rfl,by omega⟩
theorem Ey (x:Item) (hx:itOK x) (ht:e=135):own prog w x.toD e [] (encItem x):=by subst ht;exact uR hx.1 hx.2.1 hx.2.2
theorem Vw {l:List Item} (h:Own encItem 3 135 w base A n c l) (hc:c<=maxLen) (hl:∀x∈l,itOK x):own prog w (.sl (l.map Item.toD)) 35 (oz A) [.slice A n c]:=
 zZ nW underlying35 dU h hc (λx hx=>Ey x (hl x hx) rfl)
theorem Own.capm {enc:α->List Value} {l:List α} (h:Own enc s e w base A n c l):c<=maxLen:=by
 rcases h.cases with ⟨rfl,rfl,rfl,rfl⟩|⟨g,rfl⟩
 ·exact g8
 ·exact h.fil.2
theorem gJ (l:List Str) (A:Option Addr) (n c:Nat) (w:World) (h:rep w w.heap.size (.sl (l.map .s)) [.slice A n c]) (hz:l.length<=500000000000):
 Calls prog 100 #[.slice A n c] w (oK (l.map .s) 25 w):=by
 obtain⟨A',n',c',he,h2,h3,h4,h5⟩:=(ls _ _ _ _).1 h;injection he with he;injection he with e1 e2 e3;subst e1 e2 e3
 rw[h4.len]at hz;go_enter func100,ntmps100;go_wp2_with (first|(at_builtin;refine xG encS jm gW iK rfl _ _ rfl w.heap.size _ 0 0 [] rfl (Own.new_ (n:=0) gW _ [] _ rfl rfl ?_ ?_ ?_) A n c w.heap.size l rfl ?_ ?_ ?_ ?_ ?_;(unfold maxLen;omega);(exact af _);(rfl);(exact h4.below ((Below.refl _ _).alloc (af _) _));(omega);(unfold maxLen;omega);(simp only[dT];omega);intro A5 c5 w5 XU hg5 Is));go_ret;rw[bI,cJ]at XU;exact⟨_,_,_,_,rfl,by simpa using Vx XU XU.capm h5,Fresh.one (λg hg=>(XU.lt' g hg).1),((Below.refl _ _).alloc (af _) _).trans Is⟩
theorem In (l:List Item) (A:Option Addr) (n c:Nat) (w:World) (h:rep w w.heap.size (.sl (l.map Item.toD)) [.slice A n c]) (hz:l.length<=500000000000):
 Calls prog 152 #[.slice A n c] w (oK (l.map Item.toD) 35 w):=by
 obtain⟨A',n',c',he,h2,h3,h4,h5⟩:=(NS _ _ _ _).1 h;injection he with he;injection he with e1 e2 e3;subst e1 e2 e3
 rw[h4.len]at hz;go_enter func152,ntmps152;go_wp2_with (first|(at_builtin;refine xG encItem kM nW uY rfl _ _ rfl w.heap.size _ 0 0 [] rfl (Own.new_ (n:=0) nW _ [] _ rfl rfl ?_ ?_ ?_) A n c w.heap.size l rfl ?_ ?_ ?_ ?_ ?_;(unfold maxLen;omega);(exact af _);(rfl);(exact h4.below ((Below.refl _ _).alloc (af _) _));(omega);(unfold maxLen;omega);(simp only[dT];omega);intro A5 c5 w5 XU hg5 Is));go_ret;rw[bI,cJ]at XU;exact⟨_,_,_,_,rfl,by simpa using Vw XU XU.capm h5,Fresh.one (λg hg=>(XU.lt' g hg).1),((Below.refl _ _).alloc (af _) _).trans Is⟩
def cvR (v:Vec) (w W0:World) (s3:Value) (wx:World):Prop:=∃(g:Nat) (A1:Option Addr) (n1 c1:Nat) (A2:Option Addr) (n2 c2:Nat) (A3:Option Addr) (n3 c3:Nat) (A4:Option Addr) (n4 c4:Nat) (F1 F2 F3 F4:List Nat),s3= .pointer (some ⟨g,0,none⟩)/\Blk wx g 38 [v.kind,.slice A1 n1 c1,(),.slice A2 n2 c2,.slice A3 n3 c3,.slice A4 n4 c4,v.code,v.env]/\
 own prog wx (.sl (v.items.map Item.toD)) 35 F1 [.slice A1 n1 c1]/\own prog wx (.sl (v.names.map .s)) 25 F2 [.slice A2 n2 c2]/\own prog wx (.sl (v.cls.map .s)) 25 F3 [.slice A3 n3 c3]/\own prog wx (.sl (v.levels.map .s)) 25 F4 [.slice A4 n4 c4]/\Fresh W0.heap.size (g::(F1++(F2++(F3++F4))))/\Below W0.heap.size W0 wx
theorem jM:ElemTy prog 36 38 8 144:=by obtain⟨i0,hi,rJ,tW,hz2⟩:=cZ De;exact⟨i0,_,underlying36,hi,rJ,tW,hz2,rfl,by omega⟩
def cvL (v:Vec) (W0:World) (np g:Nat) (A1:Option Addr) (n1 c1:Nat) (A2:Option Addr) (n2 c2:Nat) (A3:Option Addr) (n3 c3:Nat) (A4:Option Addr) (n4 c4:Nat) (F1 F2 F3 F4:List Nat) (i:Value) (wr:World):Prop:=
 ∃(k:Nat) (Ao:Option Addr) (co:Nat) (FP:List Nat),k<=np/\i= .int .i64 k/\Blk wr g 38 [v.kind,.slice A1 n1 c1,.slice Ao k co,.slice A2 n2 c2,.slice A3 n3 c3,.slice A4 n4 c4,v.code,v.env]/\
 own prog wr (.sl ((v.parts.take k).map Vec.toD)) 36 FP [.slice Ao k co]/\
 own prog wr (.sl (v.items.map Item.toD)) 35 F1 [.slice A1 n1 c1]/\own prog wr (.sl (v.names.map .s)) 25 F2 [.slice A2 n2 c2]/\own prog wr (.sl (v.cls.map .s)) 25 F3 [.slice A3 n3 c3]/\own prog wr (.sl (v.levels.map .s)) 25 F4 [.slice A4 n4 c4]/\Fresh W0.heap.size (FP++(g::(F1++(F2++(F3++F4)))))/\Below W0.heap.size W0 wr
theorem o_ (h:P.underlying t=some (.slice e)):own P w (.sl []) t [] [()]:=by rw[own];exact⟨e,none,0,0,P.cellsOf e,[],[],h,rfl,rfl,by unfold maxLen;omega,Own.nil_,rfl,by rw[bL,iv];exact⟨rfl,rfl⟩⟩
theorem Q_ (h:own P w (.sl xs) t F [.slice A n c]):xs.length=n:=(ef (eW _ _ _ _ h)).1
def cpP (v:Vec):Prop:=∀(cs:List Value) (w:World),rep w w.heap.size v.toD cs->szD v.toD<=500000000000->Calls prog 101 #[.agg cs.toArray] w (gM v.toD 38 w)
theorem Io (v:Vec) (ih:∀y∈v.parts,cpP y):cpP v:=by
 intro cs w h hz;obtain⟨Ai,ni,ci,Ap,np,cp,An,nn,cn,Ac,nc,cc,Al,nl,cl,rfl,wk,ri,rp,rn,rc,rl,wc,we⟩:=fw h;have OD:=go v;simp only[szD,au]at OD;have q0:=((Below.refl w.heap.size w).alloc (af _) (.cells #[v.kind,.slice Ai ni ci,.slice Ap np cp,.slice An nn cn,.slice Ac nc cc,.slice Al nl cl,v.code,v.env] 38)).alloc eA (.cells #[.int .i64 0,(),(),(),(),(),.int .i64 0,.int .i64 0] 38);have kA:=Blk.new_ w 38 #[v.kind,.slice Ai ni ci,.slice Ap np cp,.slice An nn cn,.slice Ac nc cc,.slice Al nl cl,v.code,v.env];have kA:=kA.next ((Below.refl _ _).alloc (af _) (.cells #[.int .i64 0,(),(),(),(),(),.int .i64 0,.int .i64 0] 38));have kR:=Blk.new_ (w.alloc (.cells #[v.kind,.slice Ai ni ci,.slice Ap np cp,.slice An nn cn,.slice Ac nc cc,.slice Al nl cl,v.code,v.env] 38)) 38 #[.int .i64 0,(),(),(),(),(),.int .i64 0,.int .i64 0];have s0:((w.alloc (.cells #[v.kind,.slice Ai ni ci,.slice Ap np cp,.slice An nn cn,.slice Ac nc cc,.slice Al nl cl,v.code,v.env] 38)).alloc (.cells #[.int .i64 0,(),(),(),(),(),.int .i64 0,.int .i64 0] 38)).heap.size=w.heap.size+1+1:=by simp only[dT]
 simp only[dT]at kR;go_enter func101,ntmps101;go_upto_region 1 with fail
 generalize (w.alloc (.cells #[v.kind,.slice Ai ni ci,.slice Ap np cp,.slice An nn cn,.slice Ac nc cc,.slice Al nl cl,v.code,v.env] 38)).alloc (.cells #[.int .i64 0,(),(),(),(),(),.int .i64 0,.int .i64 0] 38)=W0 at q0 kA kR s0 ⊢;have kA:Blk W0 w.heap.size 38 [v.kind,.slice Ai ni ci,.slice Ap np cp,.slice An nn cn,.slice Ac nc cc,.slice Al nl cl,v.code,v.env]:=kA;have hW0:w.heap.size+1<W0.heap.size:=dP;have S0:=aa s0;clear s0;have f1:=fb ri q0 q0.size;have f2:=fb rn q0 q0.size;have f3:=fb rc q0 q0.size;have f4:=fb rl q0 q0.size;go_cut [3] (λs3 wx=>cvR v w W0 s3 wx)
 case first=>
  go_region_held3 (λW=>W.cell? ⟨w.heap.size,0,none⟩=some (.int .i64 v.kind)/\W.cell? ⟨w.heap.size,1,none⟩=some (.slice Ai ni ci)/\W.cell? ⟨w.heap.size,2,none⟩=some (.slice Ap np cp)/\W.cell? ⟨w.heap.size,3,none⟩=some (.slice An nn cn)/\W.cell? ⟨w.heap.size,4,none⟩=some (.slice Ac nc cc)/\W.cell? ⟨w.heap.size,5,none⟩=some (.slice Al nl cl)/\W.cell? ⟨w.heap.size,6,none⟩=some (.int .i64 v.code)/\W.cell? ⟨w.heap.size,7,none⟩=some (.int .i64 v.env))
   (first|(refine Blk.c8 (t:=38) ?_;(repeat'(first|with_reducible assumption|with_reducible exact Blk.new'|with_reducible exact Blk.newd|with_reducible apply Blk.set8|(with_reducible refine Blk.pk ?_ ?_;((try simp only[dW,dT,dX]);omega))|with_reducible refine Blk.dw ?_|with_reducible refine Blk.al ?_|with_reducible refine Blk.next ?_ dY));done)|go_keep)
   (first|(go_at_call 152;refine(In v.items _ _ _ _ (by(repeat'(first|with_reducible assumption|with_reducible refine kK ?_|with_reducible refine sL ?_|with_reducible refine fM ?_ dY))) dP).mono ?_;rintro e w1 ⟨A1,n1,c1,G1,rfl,o1,AP,b1⟩;obtain⟨hc1,hf1⟩:=fY b1;have z1:=b1.size;have l1:=gC o1;(try simp only[dW,dT,dX]at hc1 hf1 z1 AP);(try(have y01:W0.heap.size<w1.heap.size:=by omega)))|(go_at_call_of 100 (Value.slice An nn cn);refine(gJ v.names _ _ _ _ (by(repeat'(first|with_reducible assumption|with_reducible refine kK ?_|with_reducible refine sL ?_|with_reducible refine fM ?_ dY))) dP).mono ?_;rintro e w2 ⟨A2,n2,c2,G2,rfl,o2,fr2,b2⟩;obtain⟨hc2,hf2⟩:=fY b2;have z2:=b2.size;have l2:=gC o2;(try simp only[dW,dT,dX]at hc2 hf2 z2 fr2);(try(have y12:w1.heap.size<w2.heap.size:=by omega));(try(have y02:W0.heap.size<w2.heap.size:=by omega)))|(go_at_call_of 100 (Value.slice Ac nc cc);refine(gJ v.cls _ _ _ _ (by(repeat'(first|with_reducible assumption|with_reducible refine kK ?_|with_reducible refine sL ?_|with_reducible refine fM ?_ dY))) dP).mono ?_;rintro e w3 ⟨A3,n3,c3,G3,rfl,o3,fr3,b3⟩;obtain⟨hc3,hf3⟩:=fY b3;have z3:=b3.size;have l3:=gC o3;(try simp only[dW,dT,dX]at hc3 hf3 z3 fr3);(try(have y23:w2.heap.size<w3.heap.size:=by omega));(try(have y13:w1.heap.size<w3.heap.size:=by omega));(try(have y03:W0.heap.size<w3.heap.size:=by omega)))|(go_at_call_of 100 (Value.slice Al nl cl);refine(gJ v.levels _ _ _ _ (by(repeat'(first|with_reducible assumption|with_reducible refine kK ?_|with_reducible refine sL ?_|with_reducible refine fM ?_ dY))) dP).mono ?_;rintro e w4 ⟨A4,n4,c4,G4,rfl,o4,fr4,b4⟩;obtain⟨hc4,hf4⟩:=fY b4;have z4:=b4.size;have l4:=gC o4;(try simp only[dW,dT,dX]at hc4 hf4 z4 fr4);(try(have y34:w3.heap.size<w4.heap.size:=by omega));(try(have y24:w2.heap.size<w4.heap.size:=by omega));(try(have y14:w1.heap.size<w4.heap.size:=by omega));(try(have y04:W0.heap.size<w4.heap.size:=by omega))))
  all_goals (go_wp2_with fail;go_meet;first|refine⟨w4.heap.size,A1,n1,c1,A2,n2,c2,A3,n3,c3,A4,n4,c4,G1,G2,G3,G4,rfl,?_,?_,?_,?_,?_,?_,?_⟩|refine⟨w3.heap.size,A1,n1,c1,A2,n2,c2,A3,n3,c3,A4,n4,c4,G1,G2,G3,G4,rfl,?_,?_,?_,?_,?_,?_,?_⟩|refine⟨w2.heap.size,A1,n1,c1,A2,n2,c2,A3,n3,c3,A4,n4,c4,G1,G2,G3,G4,rfl,?_,?_,?_,?_,?_,?_,?_⟩|refine⟨w1.heap.size,A1,n1,c1,A2,n2,c2,A3,n3,c3,A4,n4,c4,G1,G2,G3,G4,rfl,?_,?_,?_,?_,?_,?_,?_⟩|refine⟨W0.heap.size,A1,n1,c1,A2,n2,c2,A3,n3,c3,A4,n4,c4,G1,G2,G3,G4,rfl,?_,?_,?_,?_,?_,?_,?_⟩)
  all_goals (first|((repeat'(first|with_reducible exact Fresh.nil|with_reducible refine Fresh.cons ?_ ?_ ?_|with_reducible refine Fresh.app2 dY ?_ ?_ ?_|with_reducible refine Fresh.mono dY ?_|with_reducible exact fS|with_reducible refine fR ?_ ?_|(with_reducible refine Fresh.notin dY ?_;((try simp only[dW,dT,dX]);omega))|(with_reducible refine Lo.notin dY ?_;((try simp only[dW,dT,dX]);omega))|((try simp only[dW,dT,dX]);omega)));done)|((repeat'(first|with_reducible assumption|with_reducible exact Blk.new'|with_reducible exact Blk.newd|with_reducible apply Blk.set8|(with_reducible refine Blk.pk ?_ ?_;((try simp only[dW,dT,dX]);omega))|with_reducible refine Blk.dw ?_|with_reducible refine Blk.al ?_|with_reducible refine Blk.next ?_ dY));done)|((repeat'(first|with_reducible assumption|with_reducible refine gX ?_|with_reducible refine fK ?_|with_reducible refine ft ?_ ?_|with_reducible exact fS|with_reducible refine fR ?_ ?_|(with_reducible refine Fresh.notin dY ?_;((try simp only[dW,dT,dX]);omega))|(with_reducible refine Lo.notin dY ?_;((try simp only[dW,dT,dX]);omega))|with_reducible refine em ?_ dY));done)|((repeat'(first|with_reducible assumption|with_reducible exact Below.refl _ _|with_reducible refine jR ?_|with_reducible refine gT ?_ ?_|with_reducible refine ie ?_ ?_|with_reducible refine gR ?_ dY ?_|((try simp only[dW,dT,dX]);omega)));done))
 case rest=>
  obtain⟨g,A1,n1,c1,A2,n2,c2,A3,n3,c3,A4,n4,c4,F1,F2,F3,F4,rfl,kg,o1,o2,o3,o4,fr,bb⟩:=hcut;obtain⟨W,hW⟩:∃W:World,W=wc:=⟨_,rfl⟩;subst hW;have kA1:=(kA.below bb dP).cell 2;simp only[ah,ag]at kA1;obtain⟨mD,Pw,Mb⟩:=ef rp;rw[au]at mD;have OA:np<=500000000000:=by rw[<-mD];omega
  have Mn:=aa mD;have xo:=aa ih;have hgB:=fr.2 g aT;clear f1 f2 f3 f4 ih mD OD;go_wp2_with fail;clear kA1;go_loopw [28] (λi wr=>cvL v W0 np g A1 n1 c1 A2 n2 c2 A3 n3 c3 A4 n4 c4 F1 F2 F3 F4 i wr) (λi _=>np - (intOf i).toNat)
  case atStart=>exact⟨0,none,0,[],by omega,rfl,kg,by rw[cL];exact o_ underlying36,o1,o2,o3,o4,fr,bb⟩
  case round=>
   clear kg o1 o2 o3 o4 fr bb;obtain⟨k,Ao,co,FP,hk,rfl,kg,oP,o1,o2,o3,o4,fr,bb⟩:=hrel;have hb:=ij q0 bb;have z0:=bb.size;have XK:=kg.lt;by_cases hlt:k<np
   ·obtain⟨b,off,x,Bi,mi,di,Bp,mp,dp,Bn,mn,dn,Bc,mc,dc,Bl,ml,dl,rfl,gD,hx,fE,hx0,qM,Md,hx3,hx4,hx5,hx6,hx7⟩:=my (fF rp hb) hlt;have HX:=aa (eJ hx);have HM:=aa (aA hx);have OB:szD x.toD<=500000000000:=by have:=rC (dt (f:=Vec.toD) HM.out);have:=go v;simp only[szD]at this;omega
    clear hx;have kx:Blk (wr.alloc (.cells #[x.kind,.slice Bi mi di,.slice Bp mp dp,.slice Bn mn dn,.slice Bc mc dc,.slice Bl ml dl,x.code,x.env] 38)) wr.heap.size 38 [x.kind,.slice Bi mi di,.slice Bp mp dp,.slice Bn mn dn,.slice Bc mc dc,.slice Bl ml dl,x.code,x.env]:=Blk.new';have rx:=sL (o:= .cells #[x.kind,.slice Bi mi di,.slice Bp mp dp,.slice Bn mn dn,.slice Bc mc dc,.slice Bl ml dl,x.code,x.env] 38) (gY fE hb.size);have kg1:=kg.al (o:= .cells #[x.kind,.slice Bi mi di,.slice Bp mp dp,.slice Bn mn dn,.slice Bc mc dc,.slice Bl ml dl,x.code,x.env] 38);have zz:wr.heap.size<(wr.alloc (.cells #[x.kind,.slice Bi mi di,.slice Bp mp dp,.slice Bn mn dn,.slice Bc mc dc,.slice Bl ml dl,x.code,x.env] 38)).heap.size:=eA;have bb1:=gT (o:= .cells #[x.kind,.slice Bi mi di,.slice Bp mp dp,.slice Bn mn dn,.slice Bc mc dc,.slice Bl ml dl,x.code,x.env] 38) bb z0;have oP1:=fK (o:= .cells #[x.kind,.slice Bi mi di,.slice Bp mp dp,.slice Bn mn dn,.slice Bc mc dc,.slice Bl ml dl,x.code,x.env] 38) oP;have o11:=fK (o:= .cells #[x.kind,.slice Bi mi di,.slice Bp mp dp,.slice Bn mn dn,.slice Bc mc dc,.slice Bl ml dl,x.code,x.env] 38) o1;have o21:=fK (o:= .cells #[x.kind,.slice Bi mi di,.slice Bp mp dp,.slice Bn mn dn,.slice Bc mc dc,.slice Bl ml dl,x.code,x.env] 38) o2;have o31:=fK (o:= .cells #[x.kind,.slice Bi mi di,.slice Bp mp dp,.slice Bn mn dn,.slice Bc mc dc,.slice Bl ml dl,x.code,x.env] 38) o3;have o41:=fK (o:= .cells #[x.kind,.slice Bi mi di,.slice Bp mp dp,.slice Bn mn dn,.slice Bc mc dc,.slice Bl ml dl,x.code,x.env] 38) o4;go_upto_region 5 with fail
    generalize wr.alloc (.cells #[x.kind,.slice Bi mi di,.slice Bp mp dp,.slice Bn mn dn,.slice Bc mc dc,.slice Bl ml dl,x.code,x.env] 38)=W1 at kx rx kg1 zz bb1 oP1 o11 o21 o31 o41 ⊢;clear hx0 qM Md hx3 hx4 hx5 hx6 hx7 fE kg oP o1 o2 o3 o4 bb hb;obtain⟨e0,e1,e2,e3,e4,e5,e6,e7⟩:=kx.c8;have eg:=kg1.cell 2;simp only[ah,ag]at eg;have zf:=kg1.frozen 2;have lP:=gC oP1;have zg:g<W1.heap.size:=dP;have LL:=aa (lP.app (Lo.cons zg ((gC o11).app ((gC o21).app ((gC o31).app (gC o41))))));have Iq:=fr.left;have dg:=fr.dis g aT;have ZV:=(aQ.1 fr.right.1).1;simp only[aG,not_or]at ZV;obtain⟨N1,N2,N3,N4⟩:=ZV;have D1:=aa (λy (hy:y∈F1)=>fr.dis y eK);have D2:=aa (λy (hy:y∈F2)=>fr.dis y eK);have D3:=aa (λy (hy:y∈F3)=>fr.dis y eK);have D4:=aa (λy (hy:y∈F4)=>fr.dis y eK);go_region_law (first
     |(go_simp;go_at_call 101;refine(xo.out x HM.out _ _ (by(repeat'(first|with_reducible assumption|with_reducible refine kK ?_|with_reducible refine sL ?_|with_reducible refine fM ?_ dY))) OB).mono ?_;rintro e w1 ⟨cs1,G1,rfl,Hz,Cf,hb1⟩;obtain⟨Ci,ki,ei,Cp,kp,ep,Cn,kn,en,Cc,kc,ec,Cl,kl,el,rfl,_⟩:=fw (eW _ _ _ _ Hz);obtain⟨hc1,hf1⟩:=fY hb1;have z1:=hb1.size;(try simp only[dW,dT,dX]at hc1 hf1 z1 Cf);have yg:g<w1.heap.size:=by omega)
     |(refine gL (A:=Ao) (n:=k) (c:=co) (b:=w1.heap.size) (m:=1) (xs:=(v.parts.take k).map Vec.toD) (F:=FP) (d:=x.toD) (F':=G1) (te:=38) (cs:=[.int .i64 x.kind,.slice Ci ki ei,.slice Cp kp ep,.slice Cn kn en,.slice Cc kc ec,.slice Cl kl el,.int .i64 x.code,.int .i64 x.env]) jM ?_ ?_ (.tmp 33) (.tmp 36) ?_ ?_ ?_ ?_ ?_ ?_ ?_ ?_ ?_ ?_ ?_;(kernel_rfl);(rfl);(rfl);(rfl);(focus (repeat'(first|with_reducible assumption|with_reducible refine gX ?_|with_reducible refine fK ?_|with_reducible refine ft ?_ ?_|with_reducible exact fS|with_reducible refine fR ?_ ?_|(with_reducible refine Fresh.notin dY ?_;((try simp only[dW,dT,dX]);omega))|(with_reducible refine Lo.notin dY ?_;((try simp only[dW,dT,dX]);omega))|with_reducible refine em ?_ dY)));(rfl);(focus (repeat'(first|with_reducible assumption|with_reducible exact Blk.new'|with_reducible exact Blk.newd|with_reducible apply Blk.set8|(with_reducible refine Blk.pk ?_ ?_;((try simp only[dW,dT,dX]);omega))|with_reducible refine Blk.dw ?_|with_reducible refine Blk.al ?_|with_reducible refine Blk.next ?_ dY)));(focus (repeat'(first|with_reducible assumption|with_reducible refine gX ?_|with_reducible refine fK ?_|with_reducible refine ft ?_ ?_|with_reducible exact fS|with_reducible refine fR ?_ ?_|(with_reducible refine Fresh.notin dY ?_;((try simp only[dW,dT,dX]);omega))|(with_reducible refine Lo.notin dY ?_;((try simp only[dW,dT,dX]);omega))|with_reducible refine em ?_ dY)));(rfl);(exact(Fresh.app2 lP Iq Cf dP).1);(unfold maxLen;omega);(omega);intro gg cc w2 Ku TG KD rN;have kg2:=Blk.mod (t:=38) (cs:=[.int .i64 v.kind,.slice A1 n1 c1,.slice Ao k co,.slice A2 n2 c2,.slice A3 n3 c3,.slice A4 n4 c4,.int .i64 v.code,.int .i64 v.env]) (by(repeat'(first|with_reducible assumption|with_reducible exact Blk.new'|with_reducible exact Blk.newd|with_reducible apply Blk.set8|(with_reducible refine Blk.pk ?_ ?_;((try simp only[dW,dT,dX]);omega))|with_reducible refine Blk.dw ?_|with_reducible refine Blk.al ?_|with_reducible refine Blk.next ?_ dY))) rN dg;have eg2:=kg2.cell 2;(simp only[ah,ag]at eg2);have zf2:=kg2.frozen 2))
    all_goals
     go_wp2_with fail;go_roundw
     case rel=>
      have z2:=rN.size;simp only[dW,dT,dX]at z2;have ng:g ∉ Ku:=KD.notin dg Cf.2 dP (by((try simp only[dW,dT,dX]);omega));refine⟨k+1,some ⟨gg,0,none⟩,cc,Ku,by omega,by go_num,?_,?_,?_,?_,?_,?_,?_,?_⟩
      ·exact kg2.set_ 2 _
      ·exact yK
      ·have o12:=fH (cs:=[.slice A1 n1 c1]) (d:= .sl (v.items.map Item.toD)) (t:=35) (P:=prog) (G:=F1) (by(repeat'(first|with_reducible assumption|with_reducible refine gX ?_|with_reducible refine fK ?_|with_reducible refine ft ?_ ?_|with_reducible exact fS|with_reducible refine fR ?_ ?_|(with_reducible refine Fresh.notin dY ?_;((try simp only[dW,dT,dX]);omega))|(with_reducible refine Lo.notin dY ?_;((try simp only[dW,dT,dX]);omega))|with_reducible refine em ?_ dY))) rN D1.out
       (repeat'(first|with_reducible assumption|with_reducible refine gX ?_|with_reducible refine fK ?_|with_reducible refine ft ?_ ?_|with_reducible exact fS|with_reducible refine fR ?_ ?_|(with_reducible refine Fresh.notin dY ?_;((try simp only[dW,dT,dX]);omega))|(with_reducible refine Lo.notin dY ?_;((try simp only[dW,dT,dX]);omega))|with_reducible refine em ?_ dY))
      ·have o12:=fH (cs:=[.slice A2 n2 c2]) (d:= .sl (v.names.map .s)) (t:=25) (P:=prog) (G:=F2) (by(repeat'(first|with_reducible assumption|with_reducible refine gX ?_|with_reducible refine fK ?_|with_reducible refine ft ?_ ?_|with_reducible exact fS|with_reducible refine fR ?_ ?_|(with_reducible refine Fresh.notin dY ?_;((try simp only[dW,dT,dX]);omega))|(with_reducible refine Lo.notin dY ?_;((try simp only[dW,dT,dX]);omega))|with_reducible refine em ?_ dY))) rN D2.out
       (repeat'(first|with_reducible assumption|with_reducible refine gX ?_|with_reducible refine fK ?_|with_reducible refine ft ?_ ?_|with_reducible exact fS|with_reducible refine fR ?_ ?_|(with_reducible refine Fresh.notin dY ?_;((try simp only[dW,dT,dX]);omega))|(with_reducible refine Lo.notin dY ?_;((try simp only[dW,dT,dX]);omega))|with_reducible refine em ?_ dY))
      ·have o12:=fH (cs:=[.slice A3 n3 c3]) (d:= .sl (v.cls.map .s)) (t:=25) (P:=prog) (G:=F3) (by(repeat'(first|with_reducible assumption|with_reducible refine gX ?_|with_reducible refine fK ?_|with_reducible refine ft ?_ ?_|with_reducible exact fS|with_reducible refine fR ?_ ?_|(with_reducible refine Fresh.notin dY ?_;((try simp only[dW,dT,dX]);omega))|(with_reducible refine Lo.notin dY ?_;((try simp only[dW,dT,dX]);omega))|with_reducible refine em ?_ dY))) rN D3.out
       (repeat'(first|with_reducible assumption|with_reducible refine gX ?_|with_reducible refine fK ?_|with_reducible refine ft ?_ ?_|with_reducible exact fS|with_reducible refine fR ?_ ?_|(with_reducible refine Fresh.notin dY ?_;((try simp only[dW,dT,dX]);omega))|(with_reducible refine Lo.notin dY ?_;((try simp only[dW,dT,dX]);omega))|with_reducible refine em ?_ dY))
      ·have o12:=fH (cs:=[.slice A4 n4 c4]) (d:= .sl (v.levels.map .s)) (t:=25) (P:=prog) (G:=F4) (by(repeat'(first|with_reducible assumption|with_reducible refine gX ?_|with_reducible refine fK ?_|with_reducible refine ft ?_ ?_|with_reducible exact fS|with_reducible refine fR ?_ ?_|(with_reducible refine Fresh.notin dY ?_;((try simp only[dW,dT,dX]);omega))|(with_reducible refine Lo.notin dY ?_;((try simp only[dW,dT,dX]);omega))|with_reducible refine em ?_ dY))) rN D4.out
       (repeat'(first|with_reducible assumption|with_reducible refine gX ?_|with_reducible refine fK ?_|with_reducible refine ft ?_ ?_|with_reducible exact fS|with_reducible refine fR ?_ ?_|(with_reducible refine Fresh.notin dY ?_;((try simp only[dW,dT,dX]);omega))|(with_reducible refine Lo.notin dY ?_;((try simp only[dW,dT,dX]);omega))|with_reducible refine em ?_ dY))
      ·exact G9
      ·have B2:=jN (B:=W0.heap.size) (a:=W0) (by(repeat'(first|with_reducible assumption|with_reducible exact Below.refl _ _|with_reducible refine jR ?_|with_reducible refine gT ?_ ?_|with_reducible refine ie ?_ ?_|with_reducible refine gR ?_ dY ?_|((try simp only[dW,dT,dX]);omega)))) rN Iq.2 (by((try simp only[dW,dT,dX]);omega))
       (repeat'(first|with_reducible assumption|with_reducible exact Below.refl _ _|with_reducible refine jR ?_|with_reducible refine gT ?_ ?_|with_reducible refine ie ?_ ?_|with_reducible refine gR ?_ dY ?_|((try simp only[dW,dT,dX]);omega)))
     case measure=>simp [intOf];omega
   ·have hkk:k=np:=dP;subst hkk;have kR:Blk W0 (w.heap.size+1) 38 [.int .i64 0,(),(),(),(),(),.int .i64 0,.int .i64 0]:=kR;have ZP:=kR.below bb dP;obtain⟨r0,r1,r2,r3,r4,r5,r6,r7⟩:=ZP.c8;have Cz:w.heap.size+1<wr.heap.size:=dP;obtain⟨e0,e1,e2,e3,e4,e5,e6,e7⟩:=kg.c8;have zr:=λi=>ZP.frozen i;have Tq:=zr 0;have zr1:=zr 1;have zr2:=zr 2;have zr3:=zr 3;have zr4:=zr 4;have zr5:=zr 5;have zr6:=zr 6;have zr7:=zr 7;clear zr;go_wp2_with fail;have hl:=Q_ oP;rw[au]at hl;rw[aC lk]at oP;have hgR:g≠w.heap.size+1:=dP;refine bM (v:= .agg #[v.kind,.slice A1 n1 c1,.slice Ao k co,.slice A2 n2 c2,.slice A3 n3 c3,.slice A4 n4 c4,v.code,v.env]) (by simp [results,results101,go_sem,r0,r1,r2,r3,r4,r5,r6,r7,Cz]) rfl ⟨_,F1++(FP++(F2++(F3++(F4++[])))),rfl,?_,?_,?_⟩
    ·have q1:=fr.right.tail;have qP:=fr.left;have q2:=q1.right;have q3:=q2.right;have f1:=q1.left;have f2:=q2.left;have f3:=q3.left;have f4:=q3.right;refine jD wk ?_ ?_ ?_ ?_ ?_ wc we;all_goals (repeat'(first|with_reducible assumption|with_reducible refine gX ?_|with_reducible refine fK ?_|with_reducible refine ft ?_ ?_|with_reducible exact fS|with_reducible refine fR ?_ ?_|(with_reducible refine Fresh.notin dY ?_;((try simp only[dW,dT,dX]);omega))|(with_reducible refine Lo.notin dY ?_;((try simp only[dW,dT,dX]);omega))|with_reducible refine em ?_ dY))
    ·exact yF
    ·exact mg
theorem jd (v:Vec):cpP v:=iH Io v
end Go.Proofs.YtekcpadlmfaihaaGreat
