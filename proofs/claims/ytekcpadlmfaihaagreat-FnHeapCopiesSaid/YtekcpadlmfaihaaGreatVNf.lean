/- putPart. -/
import Derived.Test.YtekcpadlmfaihaaGreatVLd
import Derived.Test.YtekcpadlmfaihaaGreatVHf
import Derived.Test.YtekcpadlmfaihaaGreatVLg
import Derived.Test.YtekcpadlmfaihaaGreatVLk
import Derived.Test.YtekcpadlmfaihaaGreatVHye
import Derived.Test.YtekcpadlmfaihaaGreatVLx
import Derived.Test.YtekcpadlmfaihaaGreatVVi
import Derived.Test.YtekcpadlmfaihaaGreatVHh
import Derived.Test.YtekcpadlmfaihaaGreatVReg
import Derived.Test.YtekcpadlmfaihaaGreatVFb
namespace Go.Proofs.YtekcpadlmfaihaaGreat
open Go.RowKit Proofs.Tryz
set_option maxHeartbeats 8000000
set_option maxRecDepth 100000
set_option linter.unusedSimpArgs false
set_option linter.unusedVariables false
variable {c:Cel} {g h:Hp} {frm k p tk y:Int} {x:Item} {R:List As} {E E':List Int} {its:List Item} {F X:List Nat} {cls ns:List Str} {ps:List Vec} {B d i:Nat} {s:Str} {v:Vec} {w w0:World}
theorem Mem.ofHB {g:Nat} (H:HB w g h F):Mem prog w (g::F) w [.bx g h.toD 28]:=Gd
theorem Mem.toHB {w':World} {g:Nat} {h':Hp} (M:Mem prog w (g::F) w' [.bx g h'.toD 28]):∃F',HB w' g h' F'/\Sub w.heap.size F F'/\Mod (g::F) w w':=Ga
theorem Mem.setIntG {g n c k:Nat} {l:List Int}{x:Int} (M:Mem prog w0 X w (.ow (.sl (l.map (.i .i64))) 26 [.slice (some ⟨g,0,none⟩) n c]::R)) (hk:l[k]?=some x) (hy:(Lit.int .i64 y).wf=true):
 (∃u,w.cell? ⟨g,k,none⟩=some u)/\w.frozen? ⟨g,k,none⟩=false/\g<w.heap.size/\Mem prog w0 X (w.setCell ⟨g,k,none⟩ (.int .i64 y)) (.ow (.sl ((l.set k y).map (.i .i64))) 26 [.slice (some ⟨g,0,none⟩) n c]::R):=by
 obtain⟨g',h1,h2,h3,h4,h5⟩:=Mem.setEl (k:=k) (d:= .i .i64 x) (d':= .i .i64 y) (cs':=[.int .i64 y]) ((M.int (t:=3) hy).pull 1 rfl) underlying26 sC (λF cs h=>by rw[own]at h;obtain⟨_,rfl,_⟩:=h;rfl);injection h1 with h1;injection h1 with h1;subst h1
 refine⟨by have:=h2 0 dR;simpa using this,h3 k,h4,?_⟩;rw[<-dH]at h5;simp only[bt,cu]at h5;exact h5
def tb (c:Cel) (j:Nat) (i:Int):Cel:=⟨c.count,⟨4,c.value.items,c.value.parts,c.value.names,c.value.cls,c.value.levels,c.value.code,c.value.env⟩,c.parts.set j i⟩
def qb (c:Cel) (t:Str) (i:Int):Cel:=⟨c.count,⟨4,c.value.items,c.value.parts,gA c.value.names c.parts.length++[t],c.value.cls,c.value.levels,c.value.code,c.value.env⟩,c.parts++[i]⟩
theorem Ly (h h2:Hp) (s t:Str) (i k:Nat) (x x2:Cel) (a:Int) (g:Nat) (F:List Nat) (w:World) (H:HB w g h F) (jP:h.names.length=h.slots.length) (adC:cellD h t=(i:Int)) (qD:h.cells[i]?=some x) (Zw: -1152921504606846976<=x.count/\x.count<=1152921504606846976) (hil:(i:Int)<=1073741824)
 (HO:∀(F:List Nat) (W:World),HB W g (eG h i (gE x)) F->Calls prog 44 #[.pointer (some ⟨g,0,none⟩),sv s] W λe w'=>e= .returned (.int .i64 (k:Nat))/\∃F',HB w' g h2 F'/\Sub W.heap.size F F'/\Mod (g::F) W w')
 (abH:h2.cells[k]?=some x2) (ha:ix x2.value.names t 0=a) (hnl:x2.value.names.length<=40) (mD:x2.parts.length<=40) (Mc:t.length<=maxLen)
 (TP:∀j:Nat,a=(j:Int)->∃y,x2.parts[j]?=some y/\relOK 5 (eG h2 k (tb x2 j (i:Int))) y):
 Calls prog 46 #[.pointer (some ⟨g,0,none⟩),sv s,sv t] w λe w'=>e= .returned (.tuple #[])/\∃F',HB w' g (if 0<=a then iD 5 (eG h2 k (tb x2 a.toNat (i:Int))) ((x2.parts[a.toNat]?).getD 0) else eG h2 k (qb x2 t (i:Int))) F'/\Sub w.heap.size F F'/\Mod (g::F) w w':=by
 have gK:=aa jP;have hci:=aa adC;have hx:=aa qD;have Md:=aa abH;have Qv:=aa ha;have ht:=aa Mc;have Cb:=aa HO;have HR:=aa TP;have hic:i<h.cells.length:=(ay.1 qD).1;have hkc:k<h2.cells.length:=(ay.1 abH).1;have j0:(0:Int)<=(i:Int):=dP;have j1:(i:Int)<(h.cells.length:Int):=dP;have j2:(0:Int)<=(k:Int):=dP;have j3:(k:Int)<(h2.cells.length:Int):=dP;have wfi:(Lit.int .i64 ((i:Nat):Int)).wf=true:=kP.2 fP;have wxi:(Lit.int .i64 (x.count+1)).wf=true:=kP.2 fP;obtain⟨nf,hnf⟩:∃l,gA x2.value.names x2.parts.length=l:=⟨_,rfl⟩;have HNF:=aa hnf;have AU:nf.length<=40:=by
  rw[<-hnf,gA];split
  ·simp;omega
  ·exact hnl
 obtain⟨i0,DI,rJ,tW,hz2⟩:=cZ N7;have xx:=λW=>iw (P:=prog) 25 9 i0 _ underlying25 DI rJ .i64 .i64 x2.parts.length x2.parts.length (af _) jj dP W;rw[tW,cu]at xx;have M0:=Mem.ofHB H;clear jP adC qD abH ha Mc HO TP hnf;obtain⟨Il,M0⟩:=M0.bxOpen;obtain⟨Ah,ch,An,cn,Ak,cs,rfl,To,M0⟩:=Mem.openHeap (h:=h) (M0.pull 1 rfl);have M:=M0.up [];go_enter func46,ntmps46;refine Sq (Sb M [3] 4 ?_);refine Ij M 0 (λ_=> .int .i64 (i:Nat)) (λ_=>[]) (λK Z hK=>by have hr:=(M.joinHeap (h:=h) To).rp 0 rfl;go_simp;go_at_call 38;refine(tJ h gK.out t _ _ hr).mono ?_;rintro e w' ⟨rfl,hb⟩;rw[hci.out];exact hK (mA 0) w' (M.next hb)) (λJ1 wv M=>?_)
 refine Sb M [] 1 (Sz ?_);obtain⟨gc,Nb⟩:=(M.pull 0 rfl).some0 underlying24 dP;subst Nb;obtain⟨Ei,ui,Ep,up,Ex,ux,Ec,uc,El,ul,Ez,uz,pre,post,ca,cb,iZ,-,wx1,Qp,Qq,Qr,M,jO⟩:=Mem.cellOut M hx.out;refine Sq (Sh ((M.bl 0 rfl).mid iZ) M [11] 8 ?_);refine So (.int .i64 (x.count+1)) (λK Z hK=>by go_simp;rw[FM];exact hK;omega) ?_
 refine Sb M [] 2 ?_;refine Sm M iZ (λwv M=>Sz ?_);replace M:=jO _ _ _ _ (gE x) _ _ _ _ _ _ _ _ _ _ _ _ _ _ _ _ _ _ wxi Qp Qq Qr M;replace M:=Mem.bxShut ((Mem.joinHeap (h:=(eG h i (gE x))) M To).pull 1 rfl);replace M:=M.up [];refine Sq (Sb M [] 2 ?_);refine Ij M 1 (λ_=> .int .i64 (k:Nat)) (λ_=>[.bx (g) (Hp.toD h2) 28]) (λK Z hK=>by go_simp;go_at_call 44;exact M.heapCall (h':=h2) (λF HF _=>Cb.out F _ HF) (λw' M'=>hK (mA 0) w' M')) (λJ2 wv M=>?_)
 refine Sb M [] 1 (Sz ?_);obtain⟨Il,M⟩:=M.bxOpen;obtain⟨Ahb,chb,Anb,cnb,Akb,csb,rfl,Bh,M⟩:=Mem.openHeap (h:=h2) (M.pull 1 rfl);replace M:=M.up [];obtain⟨gd,zK⟩:=(M.pull 0 rfl).some0 underlying24 dP;subst zK;refine Ra M [3] ?_;obtain⟨Wn,WI,Wp,WK,WS,Y2,Wm,WH,Wo,WJ,Wq,TH,IP,xC,cab,cbb,g_,-,FN,L3,FO,FQ,M,pw⟩:=Mem.cellOut M Md.out;refine Sq (Sb M [] 4 ?_);refine Sm M g_ (λwv M=>Sz (Sq ?_));refine Sh ((M.bl 0 rfl).mid g_) M [] 6 ?_;replace M:=M.up [3];refine Sc (aF (jx _ _ _ x2.value.names t _ (pd (M.rp 0 rfl)) eb) ?_);rintro e w' ⟨rfl,rfl⟩;rw[Qv.out];refine Sp ?_;refine Sb M [] 1 (Sz (ae ?_));refine Ra M [] ?_;refine lW (λtU=>?_) (λtU=>?_)
 ·rw[tU];replace tU:=aa tU;have ha0:0<=a:=sq;obtain⟨j,rfl⟩:=bQ ha0;obtain⟨y,hy,hyr⟩:=HR.out j rfl;have hjl:j<x2.parts.length:=(ay.1 hy).1;replace hy:=aa hy;replace hyr:=aa hyr;have j4:(0:Int)<=(j:Int):=dP;have j5:(j:Int)<(x2.parts.length:Int):=dP;obtain⟨gq,hgq⟩:=(M.pull 6 rfl).some0 underlying26 dP;subst hgq;refine Sq (Sh ((M.bl 1 rfl).mid g_) M [] 6 ?_);replace M:=M.up [6];refine So (.int .i64 y) (λK Z hK=>by have c0:wv.cell? _=some (.int .i64 y):=(M.intAt (k:=j) hy.out).1;clear M;go_simp;exact hK) ?_
  refine Sb M [] 1 (Sz (Sq ?_));refine Sh ((M.bl 2 rfl).mid g_) M [] 7 ?_;refine Ij M 1 (λ_=>undef) (λ_=>[.ow (.sl ((x2.parts.set j ((i:Nat):Int)).map (.i .i64))) 26 [.slice (some ⟨gq,0,none⟩) x2.parts.length TH]]) (λK Z hK=>by obtain⟨⟨u0,c0⟩,f0,hg,M'⟩:=M.setIntG (k:=j) (y:=((i:Nat):Int)) hy.out wfi;clear M;go_simp;exact hK (mA 0) _ M') (λJ4 wv M=>Sz ?_)
  replace M:=M.up [6,6,3,6,6,6];replace M:=pw _ _ _ _ (⟨x2.count,⟨4,x2.value.items,x2.value.parts,x2.value.names,x2.value.cls,x2.value.levels,x2.value.code,x2.value.env⟩,x2.parts.set j ((i:Nat):Int)⟩:Cel) _ _ _ _ _ _ _ _ _ _ _ _ _ _ _ _ _ _ FN LZ FO FQ M;replace M:=Mem.bxShut ((Mem.joinHeap (h:=(eG h2 k (⟨x2.count,⟨4,x2.value.items,x2.value.parts,x2.value.names,x2.value.cls,x2.value.levels,x2.value.code,x2.value.env⟩,x2.parts.set j ((i:Nat):Int)⟩:Cel))) M Bh).pull 1 rfl);replace M:=M.up [];refine Sq (Sb M [] 2 ?_);refine Ij M 1 (λ_=> .tuple #[]) (λ_=>[.bx (g) (Hp.toD (iD 5 (eG h2 k (⟨x2.count,⟨4,x2.value.items,x2.value.parts,x2.value.names,x2.value.cls,x2.value.levels,x2.value.code,x2.value.env⟩,x2.parts.set j ((i:Nat):Int)⟩:Cel)) y)) 28]) (λK Z hK=>by go_simp;go_at_call 103;exact M.heapCall (λF HF _=>vN 5 _ y g F _ HF hyr.out) (λw' M'=>hK (mA 0) w' M')) (λJ5 wv M=>Sz (aO (fI ?_)))
  refine vQ results46 ?_;rw[aN ha0,aU,hy.out];exact⟨rfl,Mem.toHB (M.sel [0] dQ)⟩
 ·rw[tU];replace tU:=aa tU;have han:¬0<=a:=sq;refine bd (dV (ae (Sq (Sh ((M.bl 1 rfl).mid g_) M [] 7 (Sz ?_)))));refine rE (ι:=Option Addr × Nat) M [72,73,74,75,76,77,78,79,80,81,82] (λfu=>match fu with|(Ar,cr)=>[]) (λfu=>match fu with|(Ar,cr)=>True) (λfu=>match fu with|(Ar,cr)=>[.ow (.sl (nf.map .s)) 25 [.slice Ar nf.length cr],.bk (gd) 43 (IP++([.int .i64 x2.count,.int .i64 4,.slice Wn x2.value.items.length WI,.slice Wp x2.value.parts.length WK,.slice Ar nf.length cr,.slice Wm x2.value.cls.length WH,.slice Wo x2.value.levels.length WJ,.int .i64 x2.value.code,.int .i64 x2.value.env,.slice Wq x2.parts.length TH]++xC)),.ow (.sl (x2.value.items.map Item.toD)) 35 [.slice Wn x2.value.items.length WI],.ow (.sl (x2.value.parts.map Vec.toD)) 36 [.slice Wp x2.value.parts.length WK],.ow (.sl (x2.value.cls.map .s)) 25 [.slice Wm x2.value.cls.length WH],.ow (.sl (x2.value.levels.map .s)) 25 [.slice Wo x2.value.levels.length WJ],.ow (.sl (x2.parts.map (.i .i64))) 26 [.slice Wq x2.parts.length TH],.oa ((h2.cells.map Cel.toD).take k) 43 cab,.oa ((h2.cells.map Cel.toD).drop (k+1)) 43 cbb,.ow (.sl (h2.names.map .s)) 25 [.slice Anb h2.names.length cnb],.ow (.sl (h2.slots.map (.i .i64))) 26 [.slice Akb h2.slots.length csb],.bk (g) 28 [.slice (some ⟨gd,0,none⟩) h2.cells.length chb,.slice Anb h2.names.length cnb,.slice Akb h2.slots.length csb,h2.copies]]) (λK2 vk=>?_) ?_
  rotate_left
  ·rintro⟨Ar,cr⟩ zf2 W2 XM M;try dsimp only at XM M ⊢
   refine ovx ?_;refine dV (Sq (Sh ((M.bl 1 rfl).mid g_) M [] 6 ?_));refine Sa M (λJ6 wv M=>?_);replace M:=M.up [7];have M:=M.int (t:=3) (n:=((i:Nat):Int)) wfi;replace M:=M.up [2,1,2];refine nQ M rD (λJ7 wv M=>Sw ?_);refine Sb M [] 2 ?_;replace M:=M.up [3];refine Sm M g_ (λwv M=>Sz (Sg ?_));refine Sh ((M.bl 0 rfl).mid g_) M [] 7 ?_;refine Sa M (λJ8 wv M=>?_);replace M:=M.up [4];have M:=M.str (t:=9) (s:=t) ht.out;replace M:=M.up [2,1,2];refine nQ M jm (λJ9 wv M=>Sw ?_);refine Sb M [] 3 ?_;replace M:=M.up [2];refine Sm M g_ (λwv M=>Sy ?_);refine rn0 results46 ?_;have e1:List.map D.s nf++[D.s t]=List.map D.s (nf++[t]):=dR;have e2:List.map (D.i .i64) x2.parts++[D.i .i64 ((i:Nat):Int)]=List.map (D.i .i64) (x2.parts++[((i:Nat):Int)]):=dR;rw[e1,e2]at M;replace M:=M.up [10,10,5,10,10,6,10,10,8];replace M:=pw _ _ _ _ (⟨x2.count,⟨4,x2.value.items,x2.value.parts,nf++[t],x2.value.cls,x2.value.levels,x2.value.code,x2.value.env⟩,x2.parts++[((i:Nat):Int)]⟩:Cel) _ _ _ _ _ _ _ _ _ _ _ _ _ _ _ _ _ _ FN LZ FO FQ M;replace M:=M.up [5,5,5,3];replace M:=Mem.bxShut ((Mem.joinHeap (h:=(eG h2 k (⟨x2.count,⟨4,x2.value.items,x2.value.parts,nf++[t],x2.value.cls,x2.value.levels,x2.value.code,x2.value.env⟩,x2.parts++[((i:Nat):Int)]⟩:Cel))) M Bh).pull 1 rfl);replace M:=M.up [];rw[aH han,qb,HNF.out];exact⟨rfl,Mem.toHB (M.sel [0] dQ)⟩
  refine lW (λDN=>?_) (λDN=>?_)
  ·rw[DN];replace DN:=aa DN;have abo:nf=List.replicate x2.parts.length []:=by have z:=DN.out;simp at z;rw[<-HNF.out,gA,aN z]
   refine Sg (Sh ((M.bl 1 rfl).mid g_) M [] 6 ?_);refine Ij M 0 (λx=> .slice (some ⟨x.b,0,none⟩) x2.parts.length x2.parts.length) (λx=>[.ow (.sl ((List.replicate x2.parts.length ([]:Str)).map D.s)) 25 [.slice (some ⟨x.b,0,none⟩) x2.parts.length x2.parts.length]]) (λK Z hK=>by have DJ:=xx wv;have DK:=M.madeS (n:=x2.parts.length) eb;go_simp;exact hK (mA wv.heap.size) _ DK) (λmO wv M=>?_)
   refine Sb M [] 3 ?_;replace M:=M.up [2];refine Sm M g_ (λwv M=>Sy (dV ?_));exact vk (((some ⟨mO.b,0,none⟩)),(x2.parts.length)) _ _ dU (bO) (by(try dsimp only);rw[abo,List.length_replicate];exact M.sel [1,0,3,4,5,6,7,8,9,10,11,12] dQ)
  ·rw[DN];replace DN:=aa DN;have abn:nf=x2.value.names:=by have z:=DN.out;simp at z;rw[<-HNF.out,gA,aH z]
   refine bd (dV ?_);exact vk ((WS),(Y2)) _ _ dU (bO) (by(try dsimp only);rw[abn];exact M.sel [0,1,2,3,4,5,6,7,8,9,10,11] dQ)
theorem gQ {a:Int} {nm fr:Str} {cs:List Value} (h:rep w B (Hop.toD ⟨k,nm,fr,a,v⟩) cs):∃(Ai:Option Addr) (ci:Nat) (Ap:Option Addr) (cp:Nat) (An:Option Addr) (cn:Nat) (Ac:Option Addr) (cc:Nat) (Al:Option Addr) (cl:Nat),
 cs=[.int .i64 k,sv nm,sv fr,.int .i64 a,.int .i64 v.kind,.slice Ai v.items.length ci,.slice Ap v.parts.length cp,.slice An v.names.length cn,.slice Ac v.cls.length cc,.slice Al v.levels.length cl,.int .i64 v.code,.int .i64 v.env]/\nm.length<=maxLen/\fr.length<=maxLen/\(Lit.int .i64 a).wf=true/\
 rep w B v.toD [v.kind,.slice Ai v.items.length ci,.slice Ap v.parts.length cp,.slice An v.names.length cn,.slice Ac v.cls.length cc,.slice Al v.levels.length cl,v.code,v.env]:=by
 obtain⟨Ai,ni,ci,Ap,np,cp,An,nn,cn,Ac,nc,cc,Al,nl,cl,rfl,-,w1,w2,w3,hr⟩:=lQ h;obtain⟨_,_,_,_,_,_,_,_,_,_,he,-⟩:=d_ hr;simp only[bF,bG,dy,cO]at he;obtain⟨⟨rfl,rfl,rfl⟩,⟨rfl,rfl,rfl⟩,⟨rfl,rfl,rfl⟩,⟨rfl,rfl,rfl⟩,⟨rfl,rfl,rfl⟩⟩:=he;exact⟨Ai,ci,Ap,cp,An,cn,Ac,cc,Al,cl,rfl,w1,w2,w3,hr⟩
theorem Rl:∀f:Nat,ab1 40 f
 |0=>λh v g F B cs w _ _ _ _ hok=>by rw[rX]at hok;exact hok.elim
 |f+1=>ab2 f (Rl f)
theorem L6 {f:Nat} {args:Array Value} {Ψ:Ending->World->Prop} (hc:Calls prog f args w (gM h.toD 28 w)) (M:Mem prog w0 X w R) (hK:∀(x:Gh) w',Mem prog w0 X w' (.ow h.toD 28 [.slice (x.A 1) h.cells.length (x.C 1),.slice (x.A 2) h.names.length (x.C 2),.slice (x.A 3) h.slots.length (x.C 3),h.copies]::R)->Ψ (.returned (.agg #[.slice (x.A 1) h.cells.length (x.C 1),.slice (x.A 2) h.names.length (x.C 2),.slice (x.A 3) h.slots.length (x.C 3),h.copies])) w'):Calls prog f args w Ψ:=
 hc.mono λe w' hn=>by obtain⟨cs,rfl,M'⟩:=M.newSt hn;obtain⟨Ah,ch,An,cn,Ak,ck,rfl,-⟩:=gV (M'.rp 0 rfl);exact hK (Ow [(none,0),(Ah,ch),(An,cn),(Ak,ck)]) w' M'
theorem Td (h:Hp) (c:Cel):(gH h c).1.cells.length<=h.cells.length+1/\h.cells.length<=(gH h c).1.cells.length:=by unfold gH;cases gy h.cells 0<;>simp
theorem V2 {y:Vec} (hy:y∈v.parts):szD y.toD<=szD v.toD:=by have h1:=go v;have h2:∀(l:List Vec),y∈l->szD y.toD<=gv (l.map Vec.toD):=Gg;have h3:=h2 v.parts hy;rw[h1];simp only[szD];omega
theorem VH:∀(f d:Nat) (h:Hp) (v:Vec),okD d v=true->d<f->h.cells.length+41 ^ f<=1073741824->szD v.toD<=100000000000->rX f h v/\(fL f h v).1.cells.length<=h.cells.length+41 ^ f
 |0,d,h,v,_,hf,_,_=>by omega
 |f+1,d,h,v,hv,hf,hl,hz=>by
  have hp:=n7 hv;have ahL:41 ^ (f+1)=41 ^ f*41:=Nat.pow_succ 41 f;have hpos:0<41 ^ f:=Nat.pow_pos dP;have key:∀(l:List Vec) (s:Hp × List Int),(∀p∈l,∃d',d'<f/\okD d' p=true/\szD p.toD<=100000000000)->s.1.cells.length+l.length*41 ^ f<=1073741824->Ba (rX f) (fL f) s l/\(l.foldl (js (fL f)) s).1.cells.length<=s.1.cells.length+l.length*41 ^ f:=by
   intro l
   induction l with
   |nil=>intro s _ _;exact⟨bO,by simp⟩
   |cons p t ih=>
    intro s hl hC;obtain⟨d',hd',hk,hzp⟩:=hl p aT;have e1:(p::t).length*41 ^ f=t.length*41 ^ f+41 ^ f:=by rw[bU,Nat.succ_mul]
    rw[e1]at hC ⊢;obtain⟨r1,r2⟩:=VH f d' s.1 p hk hd' dP hzp;have r2':(js (fL f) s p).1.cells.length<=s.1.cells.length+41 ^ f:=r2;obtain⟨s1,s2⟩:=ih (js (fL f) s p) (λq hq=>hl q (aP _ hq)) dP;exact⟨⟨r1,s1⟩,by rw[bC];omega⟩
  have aho:v.parts.length*41 ^ f<=40*41 ^ f:=dd _ hp.2;obtain⟨s1,s2⟩:=key v.parts (h,[]) (λp Mb=>by obtain⟨d',e,hk⟩:=hp.1 p Mb;exact⟨d',by omega,hk,by have:=V2 Mb;omega⟩) (by show h.cells.length+_<=_;omega)
  have s2':(v.parts.foldl (js (fL f)) (h,[])).1.cells.length<=h.cells.length+v.parts.length*41 ^ f:=s2;have htl:=(Td (v.parts.foldl (js (fL f)) (h,[])).1 ⟨1,noParts v,(v.parts.foldl (js (fL f)) (h,[])).2⟩).1;rw[rX,fL];exact⟨⟨s1,by omega,hz,by omega⟩,by omega⟩
theorem SA (hp:inR h p=true):LessP h (incS h p)/\∀k,(celD (incS h p) k).count=if k=p then (celD h p).count+1 else (celD h k).count:=by
 obtain⟨i,x,rfl,hil,hx,ld⟩:=kU hp;unfold incS;rw[aU];refine⟨qN hil (.inl rfl),λk=>?_⟩;rw[fQ hil];split
 ·rfl
 ·rfl
theorem US:∀(l:List Int) (h:Hp) (U:Nat),(∀p∈l,inR h p=true)->(∀k,-1152921504606846976<=(celD h k).count/\(celD h k).count+(U:Int)<=1152921504606846976)->l.length<=U->
 allOK incOK incS h l/\LessP h (l.foldl incS h)/\(∀k,(celD (l.foldl incS h) k).parts=(celD h k).parts)
 |[],h,U,_,_,_=>⟨bO,LessP.refl,λ_=>rfl⟩
 |p::t,h,U,hr,hb,hU=>by
  rw[bU]at hU;have hp:=hr p aT;obtain⟨l1,c1⟩:=SA hp;have hp1:∀k,(celD (incS h p) k).parts=(celD h k).parts:=by
   intro k;obtain⟨i,x,rfl,hil,hx,ld⟩:=kU hp;unfold incS;rw[aU,fQ hil];split
   ·rename_i e;subst e;rfl
   ·rfl
  obtain⟨s1,s2,s3⟩:=US t (incS h p) (U - 1) (λq hq=>by rw[DU l1];exact hr q (aP _ hq)) (λk=>by have h1:=hb k;have h2:=hb p;rw[c1 k];split<;>omega) dP
  exact⟨⟨⟨hp,(hb p).1,by have:=(hb p).2;omega⟩,s1⟩,l1.trans s2,λk=>by rw[bC,s3 k,hp1 k]⟩
theorem xP (hk:fG h=true) (hz:szD h.toD<=4194304) (k:Int):0<=(celD h k).count/\(celD h k).count<=4194304:=by
 by_cases hr:0<=k/\k<h.cells.length
 ·obtain⟨i,c,rfl,hil,hc,ld⟩:=kU (show inR h k=true by simpa [inR]using hr);rw[ld];obtain⟨h1,h2,h3⟩:=jc hk;have h4:=iC.1 h2 i _ hc;simp only[m9,ax,aL]at h4;have h5:=h4.1.1;rw[pM (refs h) hil]at h5;injection h5 with h5;have h6:=List.count_le_length (a:=(i:Int)) (l:=refs h);have h7:=Lz h;omega
 ·have:=zj (h:=h) (k:=k) dP;omega
theorem Bz (hk:fG h=true) (hz:szD h.toD<=4194304):sJ h 0:=λk=>by have:=xP hk hz k;omega
def fitP (h:Hp):Nat->Int->Prop
 |0,k=>inR h k=true/\0<(celD h k).count/\(celD h k).parts=[]
 |d+1,k=>inR h k=true/\0<(celD h k).count/\(celD h k).parts.length<=40/\∀p∈(celD h k).parts,fitP h d p
theorem sR (e:fitP h d k):0<(celD h k).count/\inR h k=true:=by cases d<;>(rw[fitP]at e;exact⟨e.2.1,e.1⟩)
theorem zw {h:Hp}:∀{d:Nat} {k:Int},fitP h d k->qU h d k
 |0,k,e=>by rw[fitP]at e;rw[qU];exact⟨e.1,e.2.2⟩
 |d+1,k,e=>by rw[fitP]at e;rw[qU];exact⟨e.1,e.2.2.1,λp hp=>zw (e.2.2.2 p hp)⟩
theorem Js {h:Hp}:∀{d:Nat} {k:Int},fitP h d k->fitP h (d+1) k
 |0,k,e=>by rw[fitP]at e;rw[fitP];exact⟨e.1,e.2.1,by rw[e.2.2];simp,λp hp=>by rw[e.2.2]at hp;simp at hp⟩
 |d+1,k,e=>by rw[fitP]at e;rw[fitP];exact⟨e.1,e.2.1,e.2.2.1,λp hp=>Js (e.2.2.2 p hp)⟩
theorem Uf {h:Hp}:∀{d:Nat} {k:Int},lD h d k=true->fitP h d k:=by
 intro d
 induction d with
 |zero=>
  intro k e;cases hf:nS 0 (celD h k) with
  |false=>rw[sS hf]at e;simp at e
  |true=>
   have h1:=hf;simp only[nS,ax,aL]at h1;rw[fitP];exact⟨j7 h1.1,h1.1,wO hf⟩
 |succ d ih=>
  intro k e;cases hf:nS (d+1) (celD h k) with
  |false=>rw[sS hf]at e;simp at e
  |true=>
   have h1:=hf;simp only[nS,ax,bX,aL]at h1;rw[u_ hf,aV]at e;rw[fitP];exact⟨j7 h1.1,h1.1,by omega,λp hp=>ih (e p hp)⟩
theorem tS (hk:fG h=true) (hn:hasN h s=true):fitP h 3 (slotD h s):=by obtain⟨i,hi,hil,hs,_,_,_,_⟩:=BA hk hn;obtain⟨h1,h2,h3⟩:=jc hk;have hx:h.names[i]?=some (h.names[i]' dP):=aw dP;have h4:=iC.1 h3 i _ hx;simp only[hs,bV,s7,ax]at h4;exact Uf h4.1.2
def KeepP (h g:Hp):Prop:=∀k,0<(celD h k).count->(celD g k).parts=(celD h k).parts/\0<(celD g k).count
theorem KeepP.refl:KeepP h h:=λ_ e=>⟨rfl,e⟩
theorem KeepP.trans {h g f:Hp} (a:KeepP h g) (b:KeepP g f):KeepP h f:=λk e=>by obtain⟨a1,a2⟩:=a k e;obtain⟨b1,b2⟩:=b k a2;exact⟨b1.trans a1,b2⟩
theorem qK {h g:Hp} (a:KeepP h g):∀{d:Nat} {k:Int},fitP h d k->fitP g d k
 |0,k,e=>by rw[fitP]at e ⊢;obtain⟨a1,a2⟩:=a k e.2.1;exact⟨j7 a2,a2,a1.trans e.2.2⟩
 |d+1,k,e=>by rw[fitP]at e ⊢;obtain⟨a1,a2⟩:=a k e.2.1;rw[a1];exact⟨j7 a2,a2,e.2.2.1,λp hp=>qK a (e.2.2.2 p hp)⟩
theorem JJ {x:Cel} (hi:i<h.cells.length) (hp:x.parts=(celD h (i:Int)).parts) (hc:0<x.count):KeepP h (eG h i x):=λk e=>by
 rw[fQ hi];split
 ·rename_i e1;subst e1;exact⟨hp,hc⟩
 ·exact⟨rfl,e⟩
theorem qV:∀{l:List Cel} {i k:Nat},gy l i=some k->∃(j:Nat) (c:Cel),k=i+j/\l[j]?=some c/\c.count=0
 |[],i,k,e=>by simp [gy]at e
 |c::t,i,k,e=>by
  rw[gy]at e;split at e
  ·rename_i h0
   injection e with e;exact⟨0,c,by omega,by simp,h0⟩
  ·obtain⟨j,c',e1,e2,e3⟩:=qV e;exact⟨j+1,c',by omega,by simpa using e2,e3⟩
theorem qG (h:Hp) (c:Cel):∃n:Nat,(gH h c).2=(n:Int)/\n<=h.cells.length/\(gH h c).1.cells[n]?=some c/\(∀j:Int,celD (gH h c).1 j=if j=(n:Int) then c else celD h j)/\(celD h (n:Int)).count=0:=by
 unfold gH;cases hf:gy h.cells 0 with
 |some k=>
  obtain⟨j,c',e1,e2,e3⟩:=qV hf;have e4:k=j:=dP;subst e4;have hk:=(ay.1 e2).1;refine⟨k,rfl,by omega,?_,λj=>fQ hk j,?_⟩
  ·show (h.cells.set k c)[k]?=_;rw[abg hk]
  ·rw[iI e2];exact e3
 |none=>
  refine⟨h.cells.length,rfl,af _,?_,λj=>?_,?_⟩
  ·show (h.cells++[c])[h.cells.length]?=_;simp
  ·unfold celD;by_cases hj:0<=j
   ·obtain⟨i,rfl⟩:=bQ hj;rw[aN hj,aN hj,aU];show ((h.cells++[c])[i]?).getD _=_;by_cases hi:i=h.cells.length
    ·subst hi;rw[aN rfl];simp
    ·rw[aH dP];by_cases hl:i<h.cells.length
     ·rw[cY hl]
     ·rw[b_ dS,b_ dP]
   ·rw[aH hj,aH hj,aH dP]
  ·unfold celD;rw[aN dP,aU,b_ (af _)];rfl
theorem Kg (h:Hp) (c:Cel):KeepP h (gH h c).1:=λk e=>by obtain⟨n,_,_,_,h4,h5⟩:=qG h c;rw[h4 k,aH (by rintro rfl;omega)];exact⟨rfl,e⟩
theorem Of (hb:sJ h B) (hc:c.count=1):sJ (gH h c).1 B:=λk=>by
 obtain⟨n,_,_,_,h4,h5⟩:=qG h c;rw[h4 k];split
 ·rw[hc];omega
 ·exact hb k
theorem ED (P:Hp->Prop) (hP:∀h c,c.count=1->P h->P (gH h c).1):∀(f:Nat) (h:Hp) (v:Vec),P h->P (fL f h v).1
 |0,h,v,e=>e
 |f+1,h,v,e=>by
  have key:∀(l:List Vec) (s:Hp × List Int),P s.1->P (l.foldl (js (fL f)) s).1:=by
   intro l
   induction l with
   |nil=>intro s e;exact e
   |cons p t ih=>intro s e;rw[bC];exact ih _ (ED P hP f s.1 p e)
  rw[fL];exact hP _ _ rfl (key v.parts (h,[]) e)
theorem EC (f:Nat) (h:Hp) (v:Vec) (hb:sJ h 0):KeepP h (fL f h v).1/\sJ (fL f h v).1 0/\(fL f h v).1.names=h.names/\(fL f h v).1.slots=h.slots/\(fL f h v).1.copies=h.copies:=
 ED (λg=>KeepP h g/\sJ g 0/\g.names=h.names/\g.slots=h.slots/\g.copies=h.copies) (λg c hc e=>by obtain⟨t1,t2,t3⟩:=qd g c;exact⟨e.1.trans (Kg g c),Of e.2.1 hc,t1.trans e.2.2.1,t2.trans e.2.2.2.1,t3.trans e.2.2.2.2⟩) f h v ⟨KeepP.refl,hb,rfl,rfl,rfl⟩
theorem EL (hk:fitP h 3 k) (a:KeepP h g) (hb:sJ g 0):relOK 5 g k/\LessP g (iD 5 g k):=
 let r:=PY 5 3 g k 0 (zw (qK a hk)) dP hb dP
 ⟨r.1,r.2.1⟩
theorem EW (h1:g.names=h.names) (h2:g.slots=h.slots) (s:Str):slotD g s=slotD h s/\hasN g s=hasN h s/\ix g.names s 0=ix h.names s 0:=by unfold slotD hasN;rw[h1,h2];exact⟨rfl,rfl,rfl⟩
theorem sV (hz:szD h.toD<=4194304):h.cells.length<=4194304/\h.names.length<=4194304:=by have:=nM h;simp only[szD,au]at this;omega
theorem Xc (hk:fG h=true) (hz:szD h.toD<=4194304) (nm:Str) (v:Vec) (hv:okD 3 v=true) (hzv:szD v.toD<=100000000000):
 ∃(h1:Hp) (k:Int),fL 4 h v=(h1,k)/\rX 4 h v/\(Lit.int .i64 k).wf=true/\h1.names.length=h1.slots.length/\(h1.names.length:Int)<=1073741824/\(hasN h1 nm=true->relOK 5 {h1 with slots:=h1.slots.set (ix h1.names nm 0).toNat k} (slotD h1 nm)):=by
 obtain⟨z1,z2⟩:=sV hz;obtain⟨p1,p2⟩:=VH 4 3 h v hv dP dP hzv;obtain⟨f1,f2,f3,f4,f5⟩:=EC 4 h v (Bz hk hz);refine⟨(fL 4 h v).1,(fL 4 h v).2,rfl,p1,?_,?_,?_,λhn=>?_⟩
 ·rw[fL];refine E6 ?_;rw[rX]at p1;exact p1.2.1
 ·rw[f3,f4];exact(jc hk).1
 ·rw[f3];omega
 ·obtain⟨s1,s2,s3⟩:=EW f3 f4 nm;rw[s2]at hn;rw[s1];exact(EL (g:={(fL 4 h v).1 with slots:=(fL 4 h v).1.slots.set (ix (fL 4 h v).1.names nm 0).toNat (fL 4 h v).2}) (tS hk hn) f1 f2).1
theorem NV (hk:fG h=true) (hz:szD h.toD<=4194304) (nm fr:Str) (hf:hasN h fr=true):
 ∃(j:Nat) (y:Cel),cellD h fr=(j:Int)/\slotD h fr=(j:Int)/\h.cells[j]?=some y/\(-1152921504606846976<=y.count/\y.count<=1152921504606846976)/\(j:Int)<=1073741824/\KeepP h (eG h j (gE y))/\(∀k,0<=(celD (eG h j (gE y)) k).count/\(celD (eG h j (gE y)) k).count<=4194305)/\
  (hasN h nm=true->relOK 5 {(eG h j (gE y)) with slots:=h.slots.set (ix h.names nm 0).toNat (j:Int)} (slotD h nm)):=by
 obtain⟨z1,z2⟩:=sV hz;have hF:=tS hk hf;obtain⟨c1,c2⟩:=sR hF;obtain⟨j,y,ej,hj,hy,ld⟩:=kU c2;have hb:=xP hk hz;have hbj:=hb (j:Int);rw[ej]at c1;have hcj:celD h (j:Int)=y:=iI hy;rw[hcj]at hbj c1;have K1:KeepP h (eG h j (gE y)):=JJ hj (by rw[hcj];rfl) (by show 0<y.count+1;omega);have B1:∀k,0<=(celD (eG h j (gE y)) k).count/\(celD (eG h j (gE y)) k).count<=4194305:=λk=>by
  rw[fQ hj];split
  ·show 0<=y.count+1/\y.count+1<=_;omega
  ·have:=hb k;omega
 refine⟨j,y,by unfold cellD;rw[aN hf,ej],ej,hy,by omega,by omega,K1,B1,λhn=>?_⟩;refine(EL (g:={(eG h j (gE y)) with slots:=h.slots.set (ix h.names nm 0).toNat (j:Int)}) (tS hk hn) K1 λk=>?_).1;have:=B1 k;show -((0:Nat):Int)<=(celD (eG h j (gE y)) k).count/\(celD (eG h j (gE y)) k).count<=_;omega
inductive Reach (h:Hp):Int->Int->Prop
 |refl (k:Int):Reach h k k
 |step {y p k:Int}:p∈(celD h y).parts->Reach h p k->Reach h y k
theorem EI {h g:Hp} (a:LessP h g) {y k:Int} (r:Reach g y k):Reach h y k:=by
 induction r with
 |refl k=>exact .refl k
 |step hp _ ih=>
  rename_i y p k _
  rcases a.2 y with e|e
  ·rw[e]at hp;exact .step hp ih
  ·rw[e]at hp;simp at hp
theorem SW {h:Hp} {y k:Int} (r:Reach h y k):∀{d:Nat},fitP h d y->fitP h d k:=by
 induction r with
 |refl k=>intro d e;exact e
 |step hp _ ih=>
  intro d e;cases d with
  |zero=>rw[fitP]at e;rw[e.2.2]at hp;simp at hp
  |succ d=>rw[fitP]at e;exact Js (ih (e.2.2.2 _ hp))
theorem Ka {h:Hp} {y k:Int} (hy:y∈(celD h k).parts) (r:Reach h y k):∀(d:Nat),¬fitP h d k
 |0,e=>by rw[fitP]at e;rw[e.2.2]at hy;simp at hy
 |d+1,e=>by have e':=e;rw[fitP]at e;exact Ka hy r d (SW r (e.2.2.2 y hy))
theorem PX {h:Hp} {n:Nat} {x:Cel} (hn:n<h.cells.length) {y k:Int} (r:Reach (eG h n x) y k) (hk:k=(n:Int)):Reach h y k:=by
 induction r with
 |refl k=>exact .refl k
 |step hp _ ih=>
  rename_i y p k _
  by_cases e:y=(n:Int)
  ·rw[e,hk];exact .refl _
  ·rw[fQ hn,aH e]at hp;exact .step hp (ih hk)
theorem MO {h:Hp} {n:Nat} {x:Cel} (hn:n<h.cells.length):∀{d:Nat} {y:Int},fitP h d y->¬Reach h y (n:Int)->fitP (eG h n x) d y
 |0,y,e,hr=>by have hy:¬y=(n:Int):=λe1=>hr (by rw[e1];exact .refl _);rw[fitP]at e ⊢;rw[fQ hn,aH hy];exact⟨j7 (by rw[fQ hn,aH hy];exact e.2.1),e.2.1,e.2.2⟩
 |d+1,y,e,hr=>by have hy:¬y=(n:Int):=λe1=>hr (by rw[e1];exact .refl _);rw[fitP]at e ⊢;rw[fQ hn,aH hy];exact⟨j7 (by rw[fQ hn,aH hy];exact e.2.1),e.2.1,e.2.2.1,λp hp=>MO hn (e.2.2.2 p hp) (λr=>hr (.step hp r))⟩
theorem EM:∀(f d:Nat) (h:Hp) (y:Int),qU h d y->d<f->LessP h (iD f h y)/\∀k,¬Reach h y k->celD (iD f h y) k=celD h k
 |0,d,h,y,_,hf=>by omega
 |f+1,d,h,y,hd,hf=>by
  have hin:inR h y=true:=wg;obtain⟨i,x,rfl,hil,hx,ld⟩:=kU hin;rw[iD,ld,aU];have jC:∀k,¬Reach h (i:Int) k->¬k=(i:Int):=λk hr e=>hr (by rw[e];exact .refl _);by_cases hp:0<x.count - 1
  ·rw[aN hp];exact⟨qN hil (.inl (by rw[ld];rfl)),λk hr=>by rw[fQ hil,aH (jC k hr)]⟩
  ·rw[aH hp];have l1:LessP h (eG h i lf):=qN hil (.inr rfl);have key:∀(l:List Int) (g:Hp),(∀p∈l,∃d',d'<f/\qU g d' p)->LessP g (l.foldl (iD f) g)/\∀k,(∀p∈l,¬Reach g p k)->celD (l.foldl (iD f) g) k=celD g k:=by
    intro l
    induction l with
    |nil=>intro g _;exact⟨LessP.refl,λ_ _=>rfl⟩
    |cons p t ih=>
     intro g hl;obtain⟨d',hd',QO⟩:=hl p aT;obtain⟨r1,r2⟩:=EM f d' g p QO hd';obtain⟨s1,s2⟩:=ih (iD f g p) (λq hq=>by obtain⟨d2,h2,h3⟩:=hl q (aP _ hq);exact⟨d2,h2,qJ r1 h3⟩)
     refine⟨r1.trans s1,λk hr=>?_⟩;rw[bC,s2 k (λq hq r=>hr q (aP _ hq) (EI r1 r)),r2 k (hr p aT)]
   obtain⟨s1,s2⟩:=key x.parts (eG h i lf) (λp Mb=>yA);refine⟨l1.trans s1,λk hr=>?_⟩;rw[s2 k (λp Mb r=>hr (.step (by rw[ld];exact Mb) (EI l1 r))),fQ hil,aH (jC k hr)]
theorem NJ {k:Nat} {x x':Cel} {m:Nat} (hk:fitP h 3 (k:Int)) (hx:h.cells[k]?=some x) (hy:x.parts[m]?=some y) (hb:sJ h 0) (qD:0<=x'.count/\x'.count<=1152921504606846976):
 relOK 5 (eG h k x') y/\(iD 5 (eG h k x') y).cells[k]?=some x':=by
 have Ch:=(ay.1 hx).1;have ld:=iI hx;have hym:y∈(celD h (k:Int)).parts:=by rw[ld];exact aA hy
 have hnr:¬Reach h y (k:Int):=λr=>Ka hym r 3 hk;have hfy:fitP h 2 y:=by rw[fitP]at hk;exact hk.2.2.2 y hym
 have hf2:fitP (eG h k x') 2 y:=MO Ch hfy hnr;have ahD:¬Reach (eG h k x') y (k:Int):=λr=>hnr (PX Ch r rfl);obtain⟨r1,r2⟩:=EM 5 2 (eG h k x') y (zw hf2) dP;have jS:sJ (eG h k x') 0:=AL Ch hb dP;refine⟨(PY 5 2 (eG h k x') y 0 (zw hf2) dP jS dP).1,?_⟩;have hl:k<(iD 5 (eG h k x') y).cells.length:=by rw[r1.1];simpa using Ch
 have h1:=r2 (k:Int) ahD;rw[fQ Ch,aN rfl,iI (aw hl)]at h1;rw[aw hl,h1]
theorem JD:∀(l:List Int) (h:Hp) (U:Nat),(∀p∈l,0<(celD h p).count)->(∀k,0<=(celD h k).count/\(celD h k).count<=(U:Int))->KeepP h (l.foldl incS h)/\(∀k,0<=(celD (l.foldl incS h) k).count/\(celD (l.foldl incS h) k).count<=(U:Int)+l.length)/\(l.foldl incS h).cells.length=h.cells.length/\∀k,(celD h k).count<=(celD (l.foldl incS h) k).count/\(celD (l.foldl incS h) k).value=(celD h k).value
 |[],h,U,_,hb=>⟨KeepP.refl,λk=>by have:=hb k;simpa using this,rfl,λk=>⟨Int.le_refl _,rfl⟩⟩
 |p::t,h,U,hr,hb=>by
  have hp:=hr p aT;obtain⟨i,x,rfl,hil,hx,ld⟩:=kU (j7 hp);have hc:∀k,celD (incS h (i:Int)) k=if k=(i:Int) then gE x else celD h k:=λk=>by unfold incS;rw[aU,fQ hil,ld]
  have hbi:=hb (i:Int);rw[ld]at hbi hp;have K1:KeepP h (incS h (i:Int)):=by unfold incS;rw[aU,ld];exact JJ hil (by rw[ld];rfl) (by show 0<x.count+1;omega)
  obtain⟨s1,s2,s3,s4⟩:=JD t (incS h (i:Int)) (U+1) (λq hq=>(K1 q (hr q (aP _ hq))).2) (λk=>by
   rw[hc k];split
   ·show 0<=x.count+1/\x.count+1<=_;omega
   ·have:=hb k;omega)
  rw[bC];refine⟨K1.trans s1,λk=>?_,by rw[s3];simp [incS],λk=>?_⟩
  ·have:=s2 k;rw[bU];omega
  ·have h4:=s4 k;rw[hc k]at h4;split at h4
   ·rename_i e
    subst e;rw[ld];exact⟨by have:(gE x).count=x.count+1:=rfl;omega,h4.2⟩
   ·exact h4
theorem VA (gK:h.names.length=h.slots.length) (hnm:(h.names.length:Int)<=1073741824) (hs:hasN h s=true) (hf:fitP h 3 (slotD h s)) (hc:∀k,0<=(celD h k).count/\(celD h k).count<=4194305)
 (hv:(celD h (slotD h s)).value.parts=[]) (hz:szD (celD h (slotD h s)).value.toD<=500000000000) (K9:h.cells.length<=4194304):
 OwnOK h s/\∃(k:Nat) (x:Cel),(iz h s).2=(k:Int)/\(iz h s).1.cells[k]?=some x/\x.count=1/\x.value=(celD h (slotD h s)).value/\x.parts=(celD h (slotD h s)).parts/\fitP (iz h s).1 3 (k:Int)/\sJ (iz h s).1 0:=by
 obtain⟨c1,c2⟩:=sR hf;obtain⟨i,x,ei,hil,hx,ld⟩:=kU c2;have Zy:=hf;rw[fitP]at Zy;obtain⟨-,-,f1,f2⟩:=Zy;have Pw:∀p∈(celD h (slotD h s)).parts,0<(celD h p).count:=λp hp=>(sR (f2 p hp)).1;obtain⟨k1,k2,k3,k4⟩:=JD (celD h (slotD h s)).parts h 4194305 Pw hc;have hio:=(US (celD h (slotD h s)).parts h 40 (λp hp=>(sR (f2 p hp)).2) (λk=>by have:=hc k;omega) f1).1;have adZ:=nX tX (celD h (slotD h s)).parts h;obtain⟨n,t1,t2,t3,t4,t5⟩:=qG ((celD h (slotD h s)).parts.foldl incS h) ⟨1,(celD h (slotD h s)).value,(celD h (slotD h s)).parts⟩;have tn:=qd ((celD h (slotD h s)).parts.foldl incS h) ⟨1,(celD h (slotD h s)).value,(celD h (slotD h s)).parts⟩;have KO:KeepP h (ownH h s).1:=k1.trans (Kg _ _);have BO:sJ (ownH h s).1 0:=Of (λk=>by have:=k2 k;omega) rfl;obtain⟨s1,s2,s3⟩:=EW (h:=h) (g:=(ownH h s).1) (tn.1.trans adZ.1) (tn.2.1.trans adZ.2.1) s;have RO:=EL (g:={(ownH h s).1 with slots:=(ownH h s).1.slots.set (ix (ownH h s).1.names s 0).toNat (ownH h s).2}) hf KO BO;refine⟨⟨gK,hnm,hs,c2,.inr ⟨hv,hz,by omega,hio,by rw[k3];omega,by rw[s1];exact RO.1⟩⟩,?_⟩;by_cases h1:(celD h (slotD h s)).count=1
 ·have e:iz h s=(h,slotD h s):=by unfold iz;rw[aN h1]
  rw[e];refine⟨i,x,ei,hx,by rw[ld]at h1;exact h1,by rw[ld],by rw[ld],by rw[<-ei];exact hf,show sJ h 0 from λk=>by have:=hc k;omega⟩
 ·have e:iz h s=({fd (ownH h s).1 s (ownH h s).2 with copies:=wrap64 (h.copies+1)},(ownH h s).2):=by unfold iz;rw[aH h1]
  have h2:2<=(celD h (slotD h s)).count:=dP;have jC:¬slotD h s=(n:Int):=by intro e1;rw[<-e1]at t5;have:=(k4 (slotD h s)).1;omega
  have hcO:celD (ownH h s).1 (slotD h s)=celD ((celD h (slotD h s)).parts.foldl incS h) (slotD h s):=by have:=t4 (slotD h s);rw[aH jC]at this;exact this
  have aa_:2<=(celD (ownH h s).1 (slotD h s)).count:=by rw[hcO];have:=(k4 (slotD h s)).1;omega
  have hlO:i<(ownH h s).1.cells.length:=by obtain⟨-,q2⟩:=sR (qK KO hf);rw[ei]at q2;simp [inR]at q2;exact q2
  have hb:fd (ownH h s).1 s (ownH h s).2=eG {(ownH h s).1 with slots:=(ownH h s).1.slots.set (ix (ownH h s).1.names s 0).toNat (ownH h s).2} i (KP (celD (ownH h s).1 (slotD h s))):=by
   have JC:0<=ix (ownH h s).1.names s 0:=by rw[s3];simpa [hasN]using hs
   unfold fd;rw[aN JC,s1,iD];have:celD {(ownH h s).1 with slots:=(ownH h s).1.slots.set (ix (ownH h s).1.names s 0).toNat (ownH h s).2} (slotD h s)=celD (ownH h s).1 (slotD h s):=rfl;rw[this,aN dP];rw[show (slotD h s).toNat=i from by rw[ei];rfl]
  rw[e];have hni:¬n=i:=by intro e1;rw[e1]at jC;exact jC ei
  have Up:∀k,celD (fd (ownH h s).1 s (ownH h s).2) k=if k=(i:Int) then KP (celD (ownH h s).1 (slotD h s)) else celD (ownH h s).1 k:=λk=>by rw[hb];exact fQ (h:={(ownH h s).1 with slots:=_}) hlO k
  have ZL:(fd (ownH h s).1 s (ownH h s).2).cells[n]?=some ⟨1,(celD h (slotD h s)).value,(celD h (slotD h s)).parts⟩:=by rw[hb];show ((ownH h s).1.cells.set i _)[n]?=_;rw[List.getElem?_set_ne dP];exact t3
  have KB:KeepP (ownH h s).1 (fd (ownH h s).1 s (ownH h s).2):=λk hk=>by
   rw[Up k];split
   ·rename_i e1
    subst e1;rw[ei];refine⟨rfl,?_⟩;rw[ei]at aa_;show 0<(celD (ownH h s).1 (i:Int)).count - 1;omega
   ·exact⟨rfl,hk⟩
  refine⟨n,_,t1,ZL,rfl,rfl,rfl,?_,λk=>?_⟩
  ·show fitP {fd (ownH h s).1 s (ownH h s).2 with copies:=_} 3 (n:Int);have q:KeepP (fd (ownH h s).1 s (ownH h s).2) {fd (ownH h s).1 s (ownH h s).2 with copies:=wrap64 (h.copies+1)}:=λk e=>⟨rfl,e⟩;refine qK q ?_;have hcn:=iI ZL;rw[fitP];refine⟨j7 (by rw[hcn];show (0:Int)<1;omega),by rw[hcn];show (0:Int)<1;omega,by rw[hcn];exact f1,λp hp=>?_⟩;rw[hcn]at hp;exact qK (KO.trans KB) (f2 p hp)
  ·show -((0:Nat):Int)<=(celD (fd (ownH h s).1 s (ownH h s).2) k).count/\_<=_;show _/\(celD (fd (ownH h s).1 s (ownH h s).2) k).count<=_;rw[Up k];have:=BO k;have:=BO (slotD h s);split
   ·show -((0:Nat):Int)<=(celD (ownH h s).1 (slotD h s)).count - 1/\(celD (ownH h s).1 (slotD h s)).count - 1<=_;omega
   ·assumption
theorem AM:∀(m f k:Nat) (s:Str),k<10 ^ m->(xM f k s).length<=m+s.length
 |0,f,k,s,h=>by
  have hk:k=0:=by simpa using h
  subst hk;cases f with
  |zero=>simp [xM]
  |succ f=>rw[xM,aN rfl];omega
 |m+1,f,k,s,h=>by
  cases f with
  |zero=>simp [xM]
  |succ f=>
   rw[xM];split
   ·simp
   ·have:=AM m f (k/10) (((48:UInt8)+UInt8.ofNat (k % 10))::s) (by rw[Nat.pow_succ]at h;omega);simp only[bU]at this;omega
theorem Dw {n:Int} (h: -999999999<=n/\n<=999999999):(ja n).length<=10:=by
 have hk:n.natAbs<10 ^ 9:=dP;unfold ja;split
 ·simp
 ·split
  ·have:=AM 9 n.natAbs n.natAbs [] hk;simp at this ⊢;omega
  ·have:=AM 9 n.natAbs n.natAbs [] hk;simp at this;omega
theorem Pj (x:Item):(qq x).length<=60:=by
 unfold qq;split
 ·simp
 ·split
  ·next h=>
   have hb:=vw h;have h1:=Dw hb.2;have h2:=Dw (n:=x.den) dP;split
   ·omega
   ·simp only[aY,bt];omega
  ·simp
theorem DZ {t:Str} (h:t.length<=60):itemOK 3 (sN t)=true:=by simp [itemOK,sN,h]
theorem JG (h:itemOK frm x=true) (h1:1<=frm) (hk:frm<=k) (h3:k<=3):itemOK k (gI frm k x)=true:=by
 unfold gI;split
 ·next hc=>
  rcases hc with hc|rfl|rfl
  ·simp [itemOK,hc]
  ·exact h
  ·rcases(by omega:frm=1\/frm=2) with rfl|rfl
   ·unfold itemOK at h ⊢;rw[bX]at h ⊢;rcases h with h|h
    ·exact .inl h
    ·right;simp only[if_true,ax,beq_iff_eq,bX,dh]at h;rw[aH dQ,aN rfl];unfold nZ;obtain⟨⟨h1,h2⟩,h3⟩:=h;rw[h1,h2];rcases h3 with h3|h3<;>rw[h3]<;>decide
   ·exact h
 ·split
  ·next hc h2=>
   have h3:k=3:=dP;subst h3;exact DZ (Pj x)
  ·next hc h2=>
   have h3:k=3:=dP;subst h3;split<;>exact DZ dQ
theorem rU (h:itemOK k x=true):itOK x:=by
 unfold itemOK at h;rw[bX]at h;rcases h with h|h
 ·obtain rfl:x=⟨0,0,[]⟩:=by simpa [eI]using h
  exact⟨by decide,by decide,by decide⟩
 ·split at h
  ·simp only[ax,beq_iff_eq,bX,dh]at h;obtain⟨⟨h1,h2⟩,h3⟩:=h;refine⟨kP.2 dP,kP.2 dP,by rw[h1];decide⟩
  ·split at h
   ·have hb:=vw h;simp only[nZ,ax,dh]at h;refine⟨kP.2 dP,kP.2 dP,by rw[h.1.1.1];decide⟩
   ·split at h
    ·simp only[ax,beq_iff_eq,aL]at h;refine⟨kP.2 dP,kP.2 dP,by unfold maxLen;omega⟩
    ·cases h
theorem QX (h:itemOK 1 x=true):0<=x.num/\x.num<2:=by
 unfold itemOK at h;rw[bX]at h;rcases h with h|h
 ·obtain rfl:x=⟨0,0,[]⟩:=by simpa [eI]using h
  decide
 ·simp only[if_true,ax,beq_iff_eq,bX]at h;omega
theorem NU {lv:List Str} (hk:0<=k/\k<=4) (hl:its.length+ps.length<=40) (hc:mF cls 3=true) (hv:mF lv 20=true) (hn:(ns.length=0\/(ns.length=its.length+ps.length/\lR ns=false))/\∀s∈ns,s.length<=60)
 (h1:0<lv.length->k=2) (h2:0<ps.length->k=4) (h3:k=0->its.length=0/\cls.length=0) (hi:∀x∈its,atomK k=true/\itemOK k x=true/\(lv.length=0\/eI x=true\/(x.den=1/\1<=x.num/\x.num<=lv.length))):
 h_ ⟨k,its,ps,ns,cls,lv,0,0⟩=true:=by
 have ZB:lenV ⟨k,its,ps,ns,cls,lv,0,0⟩=its.length+ps.length:=by unfold lenV;rw[aH (show ¬k=5 by omega)]
 simp only[h_,ax];refine⟨⟨⟨?_,?_⟩,?_⟩,?_⟩
 ·simp only[CO,ax,aL,ZB];exact⟨⟨⟨hk.1,by omega,hl⟩,hc⟩,hv⟩
 ·simp only[IY,ax,bX,aL,aV,ZB];refine⟨?_,λs hs=>hn.2 s hs⟩;rcases hn.1 with h|⟨h,h'⟩
  ·exact .inl h
  ·exact .inr ⟨h,by rw[h'];rfl⟩
 ·unfold P6 IZ;exact aM ⟨λh=>h1 dP,λh=>h2 dP,λ_=>⟨rfl,rfl⟩,λh=>absurd h (show ¬k=5 by omega),λh=>by have:=h3 h;omega⟩
 ·rw[aV];intro x hx;obtain⟨a,b,c⟩:=hi x hx;simp only[wZ,SB,ax,bX,aL];refine⟨a,b,?_⟩;rcases c with c|c|c
  ·exact .inl (.inl c)
  ·exact .inl (.inr c)
  ·exact .inr c
theorem FV.more (h:h_ v=true):(mF v.cls 3=true/\mF v.levels 20=true)/\(v.names.length=0\/(v.names.length=lenV v/\lR v.names=false))/\(0<v.levels.length->v.kind=2)/\(v.kind≠5->v.code=0/\v.env=0)/\(v.kind=0->v.items.length=0/\v.cls.length=0)/\∀x∈v.items,v.levels.length=0\/eI x=true\/(x.den=1/\1<=x.num/\x.num<=v.levels.length):=by
 simp only[h_,ax]at h;obtain⟨⟨⟨hA,hN⟩,hC⟩,hI⟩:=h;simp only[CO,ax,aL]at hA;have hC2:IZ v.kind v.code v.env v.items.length v.parts.length v.names.length v.cls.length v.levels.length:=cD hC;obtain⟨c1,c2,c3,c4,c5⟩:=hC2;simp only[IY,ax,bX,aL]at hN;rw[aV]at hI;refine⟨⟨hA.1.2,hA.2⟩,?_,λh=>c1 dP,c3,λh=>by have:=c5 h;omega,λx hx=>?_⟩
 ·rcases hN.1 with h|⟨h,h'⟩
  ·exact .inl h
  ·exact .inr ⟨h,by simpa using h'⟩
 ·have:=hI x hx;simp only[wZ,SB,ax,bX,aL]at this;rcases this.2.2 with (h|h)|h
  ·exact .inl h
  ·exact .inr (.inl h)
  ·exact .inr (.inr h)
theorem tm {α:Type} (f:α->D) (B:Nat):∀(l:List α),(∀x∈l,szD (f x)<=B)->gv (l.map f)<=l.length*B
 |[],_=>by simp [gv]
 |a::t,h=>by rw[br,gv,bU,Nat.succ_mul];have h1:=h a aT;have h2:=tm f B t λx hx=>h x (aP _ hx);omega
theorem D5 (h:itemOK k x=true):x.text.length<=60:=by
 unfold itemOK at h;rw[bX]at h;rcases h with h|h
 ·obtain rfl:x=⟨0,0,[]⟩:=by simpa [eI]using h
  decide
 ·split at h
  ·simp only[ax,dh]at h;rw[h.1.1];decide
  ·split at h
   ·simp only[nZ,ax,dh]at h;rw[h.1.1.1];decide
   ·split at h
    ·simp only[ax,aL]at h;exact h.2
    ·cases h
structure VB (v:Vec) (B:Nat):Prop where
 i:v.items.length<=41/\∀x∈v.items,x.text.length<=60
 p:v.parts.length<=41/\∀x∈v.parts,szD x.toD<=B
 n:v.names.length<=41/\∀x∈v.names,x.length<=60
 c:v.cls.length<=40/\∀x∈v.cls,x.length<=60
 l:v.levels.length<=40/\∀x∈v.levels,x.length<=60
theorem VB.sz (h:VB v B):szD v.toD<=10000+41*B:=by obtain⟨h1,h2,h3,h4,h5⟩:=h;have e:=go v;simp only[szD,au]at e;have i:=tm Item.toD 60 v.items (λx hx=>by have:=h1.2 x hx;simp only[Item.toD,szD,gv];omega);have p:=tm Vec.toD B v.parts h2.2;have n:=tm D.s 60 v.names (λx hx=>by simpa [szD]using h3.2 x hx);have c:=tm D.s 60 v.cls (λx hx=>by simpa [szD]using h4.2 x hx);have l:=tm D.s 60 v.levels (λx hx=>by simpa [szD]using h5.2 x hx);have q:=dd B h2.1;omega
theorem pB (F:FV v):v.names.length<=40:=by
 rcases F.nn with h|h
 ·omega
 ·have h1:=F.len;unfold lenV at h;split at h
  ·omega
  ·omega
theorem FV.vb (F:FV v) (h:∀x∈v.parts,szD x.toD<=B):VB v B:=by have h1:=F.len;exact⟨⟨by omega,λx hx=>D5 (F.it x hx)⟩,⟨by omega,h⟩,⟨by have:=pB F;omega,F.names⟩,⟨by have:=F.cls.1;omega,F.cls.2⟩,⟨by have:=F.lev.1;omega,F.lev.2⟩⟩
theorem AZ:∀{d:Nat} {v:Vec},okD d v=true->szD v.toD<=10000*42 ^ d
 |0,v,h=>by have F:=FV.of (jB h);rw[okD]at h;simp only[ax,dh]at h;have:=(F.vb (B:=0) (λx hx=>by rw[h.2]at hx;simp at hx)).sz;omega
 |d+1,v,h=>by have F:=FV.of (jB h);rw[okD]at h;simp only[ax,aV]at h;have h1:=(F.vb (B:=10000*42 ^ d) (λx hx=>AZ (h.2 x hx))).sz;have h2:0<42 ^ d:=Nat.pow_pos dP;rw[Nat.pow_succ];omega
theorem i6 (h:isVec v=true):okD 3 v=true/\jF v<=200:=by unfold isVec at h;simpa using h
theorem vz (h:isVec v=true):szD v.toD<=740880000:=AZ (i6 h).1
theorem eC (h:isVec v=true):bigV v:=by have:=vz h;unfold bigV;omega
theorem jf (h:isVec v=true):FV v:=FV.of (jB (i6 h).1)
theorem vy (h1:okD 3 v=true) (h2:jF v<=200):isVec v=true:=by unfold isVec;rw[h1,aM h2];rfl
theorem rr (n:Nat):mF [] n=true:=by simp [mF,vE]
theorem Ev (hk:0<=k/\k<=3) (h0:0<its.length->1<=k) (hl:its.length<=40) (hn:(ns.length=0\/(ns.length=its.length/\lR ns=false))/\∀s∈ns,s.length<=60) (hi:∀x∈its,itemOK k x=true):okD d ⟨k,its,[],ns,[],[],0,0⟩=true:=by
 have hs:h_ ⟨k,its,[],ns,[],[],0,0⟩=true:=NU dP (by simpa using hl) (rr 3) (rr 20) (by simpa using hn) dR dR (λh=>⟨by
  rcases bz its.length with h2|h2
  ·exact h2
  ·have:=h0 h2;omega,rfl⟩) (λx hx=>⟨by have:=h0 (List.length_pos_of_mem hx);unfold atomK;exact aM dP,hi x hx,.inl rfl⟩)
 cases d<;>(rw[okD,hs];rfl)
theorem DW (hk:0<=k/\k<=3) (h0:0<its.length->1<=k) (hl:its.length<=40) (hn:(ns.length=0\/(ns.length=its.length/\lR ns=false))/\∀s∈ns,s.length<=60) (hi:∀x∈its,itemOK k x=true):isVec ⟨k,its,[],ns,[],[],0,0⟩=true:=by refine vy (Ev hk h0 hl hn hi) ?_;have h1:=wV ⟨k,its,[],ns,[],[],0,0⟩;rw[jU];simp only[ik,bf]at h1 ⊢;omega
theorem JF (h1:1<=k) (h3:k<=3) (hx:itemOK k x=true):isVec ⟨k,[x],[],[],[],[],0,0⟩=true:=
 DW dP (λ_=>h1) dR dR oh
theorem tY (hl:ps.length<=40) (hc:mF cls 3=true) (hn:(ns.length=0\/(ns.length=ps.length/\lR ns=false))/\∀s∈ns,s.length<=60) (hp:∀x∈ps,okD d x=true):okD (d+1) ⟨4,[],ps,ns,cls,[],0,0⟩=true:=by have hs:h_ ⟨4,[],ps,ns,cls,[],0,0⟩=true:=NU dP (by simpa using hl) hc (rr 20) (by simpa using hn) dR dR (λh=>by omega) dR;rw[okD,hs];simpa [aV]using hp
theorem PF (h1:1<=k) (h3:k<=3) (hx:itemOK k x=true):isVec ⟨4,[],[qw k x],[],[],[],0,0⟩=true:=by
 refine vy (tY dR (rr 3) dR (λz hz=>?_)) ?_
 ·obtain rfl:z=qw k x:=ms;exact Ev dP (λ_=>h1) dR dR oh
 ·have h1:=wV (qw k x);have h2:=wV ⟨4,[],[qw k x],[],[],[],0,0⟩;rw[jU,ik,jU];simp only[ik,qw,bf,bt]at h1 h2 ⊢;omega
theorem rm (h:isVec v=true) (h4:v.kind=4):v=⟨4,[],v.parts,v.names,v.cls,[],0,0⟩/\isVec ⟨4,[],v.parts,v.names,[],[],0,0⟩=true:=by
 obtain⟨h1,h2⟩:=i6 h;have F:=jf h;obtain⟨m1,m2,m3,m4,m5,m6⟩:=FV.more (jB h1);have Uu:v.items=[]:=by
  rcases bz v.items.length with e|e
  ·exact aR.1 e
  ·have:=F.ni e;rw[h4]at this;simp [atomK]at this
 have kQ:v.levels=[]:=by
  rcases bz v.levels.length with e|e
  ·exact aR.1 e
  ·have:=m3 e;omega
 obtain⟨c1,c2⟩:=m4 dP;have hv:v=⟨4,[],v.parts,v.names,v.cls,[],0,0⟩:=by obtain⟨a,b,c,d,e,f,g,i⟩:=v;simp only at h4 Uu kQ c1 c2;rw[h4,Uu,kQ,c1,c2]
 refine⟨hv,vy (tY (by have:=F.len;omega) (rr 3) ⟨?_,F.names⟩ ?_) ?_⟩
 ·rcases m2 with e|⟨e,e'⟩
  ·exact .inl e
  ·refine .inr ⟨?_,e'⟩;rw[e];unfold lenV;rw[aH dP,Uu];simp
 ·rw[okD]at h1;simp only[ax,aV]at h1;exact h1.2
 ·rw[jU]at h2 ⊢;have:lenV v=lenV ⟨4,[],v.parts,v.names,[],[],0,0⟩:=by unfold lenV;rw[h4,Uu]
  rw[<-this];exact h2
theorem Y3 {x:Vec} (hx:isVec x=true) (hk:1<=x.kind/\x.kind<=3) (h1:x.items.length=1):∃(xk:Int) (y:Item) (xn xc xl:List Str),x=⟨xk,[y],[],xn,xc,xl,0,0⟩:=by
 have F:=jf hx;obtain⟨m1,m2,m3,m4,m5,m6⟩:=FV.more (jB (i6 hx).1);have hp:x.parts=[]:=by
  rcases bz x.parts.length with e|e
  ·exact aR.1 e
  ·have:=F.np e;omega
 obtain⟨c1,c2⟩:=m4 dP;obtain⟨a,b,c,d,e,f,g,i⟩:=x;simp only at hp c1 c2 h1;obtain⟨y,hy⟩:=List.length_eq_one_iff.1 h1;exact⟨a,y,d,e,f,by rw[hp,c1,c2,hy]⟩
theorem kD (h:Hp):szD h.toD=h.cells.length+gv (h.cells.map Cel.toD)+(h.names.length+gv (h.names.map .s))+h.slots.length:=by have:=nM h;have e:gv (h.slots.map (.i .i64))=0:=Bd (λ_=>rfl) _;simp only[szD,au]at this;omega
theorem Bu (c:Cel):szD c.toD=szD c.value.toD+c.parts.length:=by have:=wF c;have e:gv (c.parts.map (.i .i64))=0:=Bd (λ_=>rfl) _;simp only[szD,au]at this;omega
theorem FR:szD (Cel.toD ⟨0,zeroV,[]⟩)=0:=by rw[Bu];simp [zeroV,go,szD,gv]
theorem Rr:∀(l:List Cel) (i:Nat) (x:Cel),gv ((l.set i x).map Cel.toD)+szD ((l[i]?).getD ⟨0,zeroV,[]⟩).toD<=gv (l.map Cel.toD)+szD x.toD
 |[],i,x=>by simp [gv,FR]
 |c::t,0,x=>by simp only[a_,br,gv,ah,bV];omega
 |c::t,i+1,x=>by have:=Rr t i x;simp only[be,br,gv,ag];omega
theorem wT (h:Hp) (i:Nat) (x:Cel):szD (eG h i x).toD+szD (celD h (i:Int)).toD<=szD h.toD+szD x.toD:=by
 have:=Rr h.cells i x;have e:celD h (i:Int)=(h.cells[i]?).getD ⟨0,zeroV,[]⟩:=by unfold celD;rw[aN dP];rfl
 rw[kD,kD h,e];have e1:(eG h i x).cells=h.cells.set i x:=rfl;have e2:(eG h i x).names=h.names:=rfl;have e3:(eG h i x).slots=h.slots:=rfl;rw[e1,e2,e3,da];omega
theorem UR (h:Hp) (k:Int) (x:Cel) (hx:szD x.toD<=szD (celD h k).toD):szD (eG h k.toNat x).toD<=szD h.toD:=by
 have h1:=wT h k.toNat x;by_cases hk:0<=k
 ·rw[Int.toNat_of_nonneg hk]at h1;omega
 ·have:szD (celD h k).toD=0:=by unfold celD;rw[aH hk];exact FR
  omega
theorem PA:∀(f:Nat) (h:Hp) (k:Int),szD (iD f h k).toD<=szD h.toD
 |0,h,k=>af _
 |f+1,h,k=>by
  have key:∀(l:List Int) (g:Hp),szD (l.foldl (iD f) g).toD<=szD g.toD:=by
   intro l
   induction l with
   |nil=>intro g;exact af _
   |cons p t ih=>intro g;rw[bC];exact du (ih _) (PA f g p)
  rw[iD];split
  ·exact UR h k _ (by rw[Bu,Bu];exact af _)
  ·exact du (key _ _) (UR h k _ (by rw[show szD lf.toD=0 from FR];exact dj _))
theorem QT:∀(l:List Int) (h:Hp),szD (l.foldl incS h).toD<=szD h.toD
 |[],h=>af _
 |p::t,h=>by rw[bC];exact du (QT t _) (UR h p _ (by rw[Bu,Bu];exact af _))
theorem QU (h:Hp) (c:Cel):szD (gH h c).1.toD<=szD h.toD+1+szD c.toD:=by
 unfold gH;cases gy h.cells 0 with
 |some k=>
  have:=wT h k c;show szD (eG h k c).toD<=_;omega
 |none=>
  show szD (Hp.toD {h with cells:=h.cells++[c]})<=_;rw[kD,kD h];simp only[aY,aI,Aj,br,bL,gv,bt];omega
theorem UQ (h:Hp) (l:List Int) (hl:l.length=h.slots.length):szD (Hp.toD {h with slots:=l})=szD h.toD:=by rw[kD,kD h];show _+l.length=_;rw[hl]
theorem Su (h:Hp) (n:Int):szD (Hp.toD {h with copies:=n})=szD h.toD:=by rw[kD,kD h]
theorem Ld (h:Hp) (s:Str) (k:Int):szD (fd h s k).toD<=szD h.toD+2+s.length:=by
 unfold fd;split
 ·have:=PA 5 {h with slots:=h.slots.set (ix h.names s 0).toNat k} (slotD h s);rw[UQ h _ (da ..)]at this;omega
 ·rw[kD,kD h];simp only[aY,aI,Aj,br,bL,gv,szD,bt];omega
theorem UP:∀(f:Nat) (h:Hp) (v:Vec),szD (fL f h v).1.toD<=szD h.toD+2*szD v.toD+1
 |0,h,v=>by show szD h.toD<=_;omega
 |f+1,h,v=>by
  have key:∀(l:List Vec) (s:Hp × List Int),szD (l.foldl (js (fL f)) s).1.toD<=szD s.1.toD+2*gv (l.map Vec.toD)+l.length/\(l.foldl (js (fL f)) s).2.length=s.2.length+l.length:=by
   intro l
   induction l with
   |nil=>intro s;simp [gv]
   |cons p t ih=>
    intro s;rw[bC];obtain⟨i1,i2⟩:=ih (js (fL f) s p);have h1:=UP f s.1 p;have e1:(js (fL f) s p).1=(fL f s.1 p).1:=rfl;have e2:(js (fL f) s p).2.length=s.2.length+1:=by show (s.2++[_]).length=_;simp
    rw[e1]at i1;rw[e2]at i2;simp only[br,gv,bU];omega
  obtain⟨k1,k2⟩:=key v.parts (h,[]);have t1:=QU (v.parts.foldl (js (fL f)) (h,[])).1 ⟨1,noParts v,(v.parts.foldl (js (fL f)) (h,[])).2⟩;rw[Bu]at t1;have e:=go v;have e':=go (noParts v);simp only[szD,au,bL,bf,gv]at e e';rw[fL];simp only[bf]at k1 k2 t1;omega
theorem UO (h:Hp) (s:Str):szD (iz h s).1.toD<=szD h.toD+3+s.length+szD (celD h (slotD h s)).toD:=by
 unfold iz;split
 ·show szD h.toD<=_;omega
 ·have h1:=QT (celD h (slotD h s)).parts h;have h2:=QU ((celD h (slotD h s)).parts.foldl incS h) ⟨1,(celD h (slotD h s)).value,(celD h (slotD h s)).parts⟩;have h3:=Ld (ownH h s).1 s (ownH h s).2;have e:(gH ((celD h (slotD h s)).parts.foldl incS h) ⟨1,(celD h (slotD h s)).value,(celD h (slotD h s)).parts⟩).1=(ownH h s).1:=rfl;rw[e,Bu]at h2;rw[Bu (celD h (slotD h s))];show szD (Hp.toD {fd (ownH h s).1 s (ownH h s).2 with copies:=_})<=_;rw[Su];simp only at h2;omega
theorem BD (h:isVec v=true):szD (noParts v).toD<=10000:=by have F:=jf h;have h1:=(i6 h).1;rw[okD]at h1;simp only[ax,aV]at h1;have B:=F.vb (B:=1000000000) (λx hx=>by have h2:=AZ (h1.2 x hx);omega);have:VB (noParts v) 0:=⟨B.i,by simp,B.n,B.c,B.l⟩;have:=this.sz;omega
def FP (h:Hp):Nat->Int->Prop
 |0,k=>0<(celD h k).count/\(celD h k).parts=[]
 |d+1,k=>0<(celD h k).count/\((celD h k).parts=[]\/((celD h k).value.kind=4/\(celD h k).parts.length<=40))/\∀p∈(celD h k).parts,FP h d p
theorem aao (e:FP h d k):0<(celD h k).count:=by cases d<;>(rw[FP]at e;exact e.1)
theorem Kv {h:Hp}:∀{d:Nat} {k:Int},FP h d k↔lD h d k=true
 |0,k=>by rw[FP,lD];simp [nS]
 |d+1,k=>by
  rw[FP,lD];simp only[nS,ax,bX,aL,aV];constructor
  ·rintro⟨a,b,c⟩;refine⟨⟨a,?_⟩,λp hp=>Kv.1 (c p hp)⟩;rcases b with b|b
   ·left;rw[b];rfl
   ·right;exact⟨b,by omega⟩
  ·rintro⟨⟨a,b⟩,c⟩;refine⟨a,?_,λp hp=>Kv.2 (c p hp)⟩;rcases b with b|b
   ·left;exact aR.1 b
   ·right;exact b.1
theorem Y7 {h:Hp}:∀{d:Nat} {k:Int},FP h d k->FP h (d+1) k
 |0,k,e=>by rw[FP]at e;rw[FP];exact⟨e.1,.inl e.2,λp hp=>by rw[e.2]at hp;simp at hp⟩
 |d+1,k,e=>by rw[FP]at e;rw[FP];exact⟨e.1,e.2.1,λp hp=>Y7 (e.2.2 p hp)⟩
theorem OP {h:Hp}:∀{d:Nat} {k:Int},FP h d k->qU h d k
 |0,k,e=>by rw[FP]at e;rw[qU];exact⟨j7 e.1,e.2⟩
 |d+1,k,e=>by
  rw[FP]at e;rw[qU];refine⟨j7 e.1,?_,λp hp=>OP (e.2.2 p hp)⟩;rcases e.2.1 with b|b
  ·rw[b];simp
  ·exact b.2
structure EX (h:Hp) (E:List Int):Prop where
 c:∀k:Int,(celD h k).count=(((refs h).count k+E.count k:Nat):Int)
 v:∀k:Int,(celD h k).value.parts=[]
 z:∀k:Int,(celD h k).count=0->(celD h k).parts=[]/\(celD h k).value=zeroV
theorem EX.nn (X:EX h E) (k:Int):0<=(celD h k).count:=by rw[X.c k];omega
theorem EX.perm (X:EX h E) (hp:∀k,E.count k=E'.count k):EX h E':=⟨λk=>by rw[X.c k,hp k],X.v,X.z⟩
theorem VM (hp:p∈(celD h k).parts):p∈refs h:=by
 unfold celD at hp;split at hp
 ·cases hc:h.cells[k.toNat]? with
  |none=>rw[hc]at hp;simp at hp
  |some c=>
   rw[hc]at hp;exact bD _ (dM.2 ⟨c,aA hc,hp⟩)
 ·simp at hp
theorem EX.ref (X:EX h E) (hp:p∈refs h):0<(celD h p).count:=by rw[X.c p];have:=eo.2 hp;omega
theorem EX.part (X:EX h E) (hp:p∈(celD h k).parts):0<(celD h p).count:=X.ref (VM hp)
theorem EX.slot (X:EX h E) (hp:p∈h.slots):0<(celD h p).count:=X.ref (bJ _ hp)
theorem EX.out (X:EX h E) (hp:p∈E):0<(celD h p).count:=by rw[X.c p];have:=eo.2 hp;omega
theorem abL (h:Le v=true):v=zeroV:=by obtain⟨a,b,c,d,e,f,g,i⟩:=v;simp only[Le,aL,aR]at h;obtain⟨rfl,rfl,rfl,rfl,rfl,rfl,rfl,rfl⟩:=h;rfl
theorem EX.of (hk:fG h=true):EX h []:=by
 have hk':=hk;simp only[fG,ax,aL,aV]at hk';obtain⟨⟨⟨-,h3⟩,h4⟩,-⟩:=hk';have key:∀k:Int,(celD h k).count=(((refs h).count k:Nat):Int)/\(celD h k).value.parts=[]/\((celD h k).count=0->(celD h k).parts=[]/\(celD h k).value=zeroV):=λk=>by
  by_cases hr:inR h k=true
  ·obtain⟨i,c,rfl,hil,hc,ld⟩:=kU hr;rw[ld];have h5:=iC.1 h4 i c hc;simp only[m9,ax,bX,aL]at h5;obtain⟨⟨a,b⟩,e⟩:=h5;rw[pM _ hil]at a;injection a with a;refine⟨a.symm,aR.1 b,λh0=>?_⟩;rcases e with e|e
   ·exact absurd h0 e
   ·exact⟨aR.1 e.1,abL e.2⟩
  ·have h0:celD h k=⟨0,zeroV,[]⟩:=by
    simp [inR]at hr;unfold celD;split
    ·next h0=>rw[b_ (by have:=hr h0;omega)];rfl
    ·rfl
   rw[h0];refine⟨?_,rfl,λ_=>⟨rfl,rfl⟩⟩;have:(refs h).count k=0:=List.count_eq_zero.2 λhm=>hr (h3 k hm);rw[this];rfl
 exact⟨λk=>by rw[(key k).1];simp,λk=>(key k).2.1,λk=>(key k).2.2⟩
theorem QG:∀(l:List Cel) (i:Nat) (x:Cel) (k:Int) (hi:i<l.length),((l.set i x).flatMap (·.parts)).count k+(l[i].parts).count k=(l.flatMap (·.parts)).count k+x.parts.count k
 |[],i,x,k,hi=>by simp at hi
 |c::t,0,x,k,hi=>by simp only[a_,cB,bT,List.getElem_cons_zero];omega
 |c::t,i+1,x,k,hi=>by have:=QG t i x k (by simpa using hi);simp only[be,cB,bT,List.getElem_cons_succ];omega
theorem NR (hi:i<h.cells.length) (x:Cel) (k:Int):(refs (eG h i x)).count k+(celD h (i:Int)).parts.count k=(refs h).count k+x.parts.count k:=by have:=QG h.cells i x k hi;rw[iI (aw hi)];show (h.slots++(h.cells.set i x).flatMap _).count k+_=(h.slots++_).count k+_;rw[bT,bT];omega
theorem AO {x:Cel} (X:EX h E) (hi:i<h.cells.length) (hb:∀k:Int,(if k=(i:Int) then x.count - (celD h (i:Int)).count else 0)+(((celD h (i:Int)).parts.count k+E.count k:Nat):Int)=((x.parts.count k+E'.count k:Nat):Int))
 (hv:x.value.parts=[]) (hz:x.count=0->x.parts=[]/\x.value=zeroV):EX (eG h i x) E':=by
 refine⟨λk=>?_,λk=>?_,λk=>?_⟩
 ·have h1:=X.c k;have h2:=NR hi x k;have h3:=hb k;rw[fQ hi];by_cases hk:k=(i:Int)
  ·subst hk;rw[aN rfl]at h3 ⊢;omega
  ·rw[aH hk]at h3 ⊢;omega
 ·rw[fQ hi];split
  ·exact hv
  ·exact X.v k
 ·rw[fQ hi];split
  ·exact hz
  ·exact X.z k
theorem Te {h:Hp} {c:Cel} (hz:∀k:Int,(celD h k).count=0->(celD h k).parts=[]) (k:Int):(refs (gH h c).1).count k=(refs h).count k+c.parts.count k:=by
 unfold gH;cases hf:gy h.cells 0 with
 |some n=>
  obtain⟨j,c',e1,e2,e3⟩:=qV hf;have e4:n=j:=dP;subst e4;have hn:=(ay.1 e2).1;have h1:=NR hn c k;rw[hz (n:Int) (by rw[iI e2];exact e3)]at h1;simpa using h1
 |none=>
  show (h.slots++(h.cells++[c]).flatMap _).count k=(h.slots++_).count k+_;rw[cj,bT,bT,bT];simp;omega
theorem QI (X:EX h (c.parts++E)) (hc:c.count=1) (hv:c.value.parts=[]):EX (gH h c).1 ((gH h c).2::E):=by
 obtain⟨n,t1,t2,t3,t4,t5⟩:=qG h c;have tr:=λk=>Te (c:=c) (λk e=>(X.z k e).1) k;refine⟨λk=>?_,λk=>?_,λk=>?_⟩
 ·rw[t4,tr,t1,cX];have h1:=X.c k;rw[bT]at h1;by_cases hk:k=(n:Int)
  ·subst hk;rw[aN rfl,hc];simp;rw[t5]at h1;omega
  ·rw[aH hk,h1];have:((n:Int)==k)=false:=sf;rw[this];simp;omega
 ·rw[t4];split
  ·exact hv
  ·exact X.v k
 ·rw[t4];split
  ·intro h0;omega
  ·exact X.z k
theorem Uc:∀(f d:Nat) (h:Hp) (v:Vec) (E:List Int),okD d v=true->d<f->EX h E->EX (fL f h v).1 ((fL f h v).2::E)
 |0,d,h,v,E,_,hf,_=>by omega
 |f+1,d,h,v,E,hv,hf,X=>by
  have hp:=(n7 hv).1;have key:∀(l:List Vec) (s:Hp × List Int),(∀p∈l,p∈v.parts)->EX s.1 (s.2++E)->EX (l.foldl (js (fL f)) s).1 ((l.foldl (js (fL f)) s).2++E):=by
   intro l
   induction l with
   |nil=>intro s _ Y;exact Y
   |cons p t ih=>
    intro s hl Y;rw[bC];refine ih _ (λq hq=>hl q (aP _ hq)) ?_;obtain⟨d',rfl,hd'⟩:=hp p (hl p aT);have Z:=Uc f d' s.1 p (s.2++E) hd' dP Y;refine Z.perm λk=>?_;show List.count k ((fL f s.1 p).2::(s.2++E))=List.count k ((s.2++[(fL f s.1 p).2])++E);simp only[cX,bT,List.count_nil];omega
  rw[fL];exact QI (key v.parts (h,[]) (λp h=>h) X) rfl rfl
def KV (h g:Hp):Prop:=∀k:Int,(celD g k).count<=(celD h k).count/\(0<(celD g k).count->(celD g k).value=(celD h k).value/\(celD g k).parts=(celD h k).parts)
theorem KV.refl:KV h h:=λ_=>⟨Int.le_refl _,λ_=>⟨rfl,rfl⟩⟩
theorem KV.trans {h g f:Hp} (a:KV h g) (b:KV g f):KV h f:=λk=>by obtain⟨a1,a2⟩:=a k;obtain⟨b1,b2⟩:=b k;refine⟨by omega,λe=>?_⟩;obtain⟨b3,b4⟩:=b2 e;obtain⟨a3,a4⟩:=a2 dP;exact⟨b3.trans a3,b4.trans a4⟩
theorem Ph:∀(f d:Nat) (h:Hp) (y:Int) (E:List Int),qU h d y->d<f->EX h (y::E)->EX (iD f h y) E/\KV h (iD f h y)
 |0,d,h,y,E,_,hf,_=>by omega
 |f+1,d,h,y,E,hd,hf,X=>by
  have hin:inR h y=true:=wg;obtain⟨i,x,rfl,hil,hx,ld⟩:=kU hin;have hy:=X.out (p:=(i:Int)) aT;have hc:=X.c (i:Int);have rk:=X.v (i:Int);rw[ld]at hc hy rk;rw[iD,ld,aU];by_cases hp:0<x.count - 1
  ·rw[aN hp];refine⟨AO X hil (λk=>?_) rk (λe=>?_),λk=>?_⟩
   ·rw[ld];have e1:(KP x).parts=x.parts:=rfl;have e2:(KP x).count=x.count - 1:=rfl;rw[e1,e2,cX];by_cases hk:k=(i:Int)
    ·subst hk;simp;omega
    ·have:((i:Int)==k)=false:=sf;rw[aH hk,this];simp
   ·have e:x.count - 1=0:=e;omega
   ·rw[fQ hil];split
    ·next hk=>subst hk;rw[ld];exact⟨by show x.count - 1<=x.count;omega,λ_=>⟨rfl,rfl⟩⟩
    ·exact⟨Int.le_refl _,λ_=>⟨rfl,rfl⟩⟩
  ·rw[aH hp];have h1:x.count=1:=dP;have X1:EX (eG h i lf) (x.parts++E):=AO X hil (λk=>by
    rw[ld];have e1:lf.parts=[]:=rfl;have e2:lf.count=0:=rfl;rw[e1,e2,cX,bT];by_cases hk:k=(i:Int)
    ·subst hk;simp;omega
    ·have:((i:Int)==k)=false:=sf;rw[aH hk,this];simp) rfl (λ_=>⟨rfl,rfl⟩)
   have K1:KV h (eG h i lf):=λk=>by
    rw[fQ hil];split
    ·next hk=>subst hk;rw[ld];exact⟨by show (0:Int)<=x.count;omega,λe=>by have e:(0:Int)<0:=e;omega⟩
    ·exact⟨Int.le_refl _,λ_=>⟨rfl,rfl⟩⟩
   have l1:LessP h (eG h i lf):=qN hil (.inr rfl);have key:∀(l:List Int) (g:Hp),(∀p∈l,∃d',d'<f/\qU g d' p)->EX g (l++E)->EX (l.foldl (iD f) g) E/\KV g (l.foldl (iD f) g):=by
    intro l
    induction l with
    |nil=>intro g _ Y;exact⟨Y,KV.refl⟩
    |cons p t ih=>
     intro g hl Y;obtain⟨d',hd',QO⟩:=hl p aT;obtain⟨r1,r2⟩:=Ph f d' g p (t++E) QO hd' Y;have r3:=(EM f d' g p QO hd').1;obtain⟨s1,s2⟩:=ih (iD f g p) (λq hq=>by obtain⟨d2,h2,h3⟩:=hl q (aP _ hq);exact⟨d2,h2,qJ r3 h3⟩) r1
     exact⟨s1,r2.trans s2⟩
   obtain⟨s1,s2⟩:=key x.parts (eG h i lf) (λp Mb=>yA) X1;exact⟨s1,K1.trans s2⟩
theorem Dx {h g:Hp} {E:List Int} (K:KV h g) (X:EX g E):∀{d:Nat} {k:Int},FP h d k->0<(celD g k).count->FP g d k/\asm g d k=asm h d k
 |0,k,e,hu=>by obtain⟨a,b⟩:=(K k).2 hu;rw[FP]at e;rw[FP,asm,asm,b,a];exact⟨⟨hu,e.2⟩,rfl⟩
 |d+1,k,e,hu=>by obtain⟨a,b⟩:=(K k).2 hu;rw[FP]at e;have key:∀p∈(celD h k).parts,FP g d p/\asm g d p=asm h d p:=λp hp=>Dx K X (e.2.2 p hp) (X.part (by rw[b];exact hp));rw[FP,asm,asm,b,a];refine⟨⟨hu,e.2.1,λp hp=>(key p hp).1⟩,?_⟩;rw[cT λp hp=>(key p hp).2]
def KU (h g:Hp):Prop:=∀k:Int,0<(celD h k).count->(celD g k).value=(celD h k).value/\(celD g k).parts=(celD h k).parts/\0<(celD g k).count
theorem KU.refl:KU h h:=λ_ e=>⟨rfl,rfl,e⟩
theorem KU.trans {h g f:Hp} (a:KU h g) (b:KU g f):KU h f:=λk e=>by obtain⟨a1,a2,a3⟩:=a k e;obtain⟨b1,b2,b3⟩:=b k a3;exact⟨b1.trans a1,b2.trans a2,b3⟩
theorem qX {h g:Hp} (K:KU h g):∀{d:Nat} {k:Int},FP h d k->FP g d k/\asm g d k=asm h d k
 |0,k,e=>by rw[FP]at e;obtain⟨a,b,c⟩:=K k e.1;rw[FP,asm,asm,b,a];exact⟨⟨c,e.2⟩,rfl⟩
 |d+1,k,e=>by rw[FP]at e;obtain⟨a,b,c⟩:=K k e.1;have key:∀p∈(celD h k).parts,FP g d p/\asm g d p=asm h d p:=λp hp=>qX K (e.2.2 p hp);rw[FP,asm,asm,b,a];refine⟨⟨c,e.2.1,λp hp=>(key p hp).1⟩,?_⟩;rw[cT λp hp=>(key p hp).2]
def GD (h:Hp):Prop:=∀k:Int,0<(celD h k).count->FP h 3 k
theorem GD.kv (G:GD h) (K:KV h g) (X:EX g E):GD g:=λk hk=>(Dx K X (G k (by have:=(K k).1;omega)) hk).1
theorem CP (h:Hp) (c:Cel):KU h (gH h c).1:=λk e=>by obtain⟨n,_,_,_,h4,h5⟩:=qG h c;rw[h4 k,aH (by rintro rfl;omega)];exact⟨rfl,rfl,e⟩
theorem VG (f:Nat) (h:Hp) (v:Vec):KU h (fL f h v).1:=
 ED (λg=>KU h g) (λg c _ e=>e.trans (CP g c)) f h v KU.refl
theorem DV9 (X:EX h E) (hp:0<(celD h p).count):EX (incS h p) (p::E)/\KU h (incS h p):=by
 obtain⟨i,x,rfl,hil,hx,ld⟩:=kU (j7 hp);unfold incS;rw[aU,ld];rw[ld]at hp;have rk:=X.v (i:Int);rw[ld]at rk;refine⟨AO X hil (λk=>?_) rk (λe=>?_),λk e=>?_⟩
 ·rw[ld];have e1:(gE x).parts=x.parts:=rfl;have e2:(gE x).count=x.count+1:=rfl;rw[e1,e2,cX];by_cases hk:k=(i:Int)
  ·subst hk;simp;omega
  ·have:((i:Int)==k)=false:=sf;rw[aH hk,this];simp
 ·have e:x.count+1=0:=e;omega
 ·rw[fQ hil];split
  ·next hk=>subst hk;rw[ld];exact⟨rfl,rfl,by show 0<x.count+1;omega⟩
  ·exact⟨rfl,rfl,e⟩
theorem PE (X:EX h E) (hp:0<(celD h p).count) (G:GD h):GD (incS h p):=λk hk=>by
 obtain⟨i,x,rfl,hil,hx,ld⟩:=kU (j7 hp);refine(qX (DV9 X hp).2 (G k ?_)).1;unfold incS at hk;rw[aU,fQ hil]at hk;split at hk
 ·next e=>rw[e];exact hp
 ·exact hk
theorem QW:∀(l:List Int) (h:Hp) (E:List Int),EX h E->(∀p∈l,0<(celD h p).count)->EX (l.foldl incS h) (l++E)/\KU h (l.foldl incS h)
 |[],h,E,X,_=>⟨X,KU.refl⟩
 |p::t,h,E,X,hl=>by obtain⟨a,b⟩:=DV9 X (hl p aT);obtain⟨c,d⟩:=QW t (incS h p) (p::E) a λq hq=>(b q (hl q (aP _ hq))).2.2;rw[bC];refine⟨c.perm λk=>?_,b.trans d⟩;simp only[bT,cX,cK];omega
theorem QV:∀(l:List Int) (h:Hp) (E:List Int),EX h E->(∀p∈l,0<(celD h p).count)->GD h->GD (l.foldl incS h)
 |[],h,E,X,_,G=>G
 |p::t,h,E,X,hl,G=>by have hp:=hl p aT;obtain⟨a,b⟩:=DV9 X hp;rw[bC];exact QV t (incS h p) (p::E) a (λq hq=>(b q (hl q (aP _ hq))).2.2) (PE X hp G)
theorem Rs (G:GD h) (hf:FP (gH h c).1 3 (gH h c).2):GD (gH h c).1:=λk hk=>by
 obtain⟨n,t1,t2,t3,t4,t5⟩:=qG h c;by_cases e:k=(n:Int)
 ·rw[e,<-t1];exact hf
 ·rw[t4,aH e]at hk;exact(qX (CP h c) (G k hk)).1
theorem Dr:∀(l:List Int) (i:Nat) (x k:Int) (hi:i<l.length),(l.set i x).count k+[l[i]].count k=l.count k+[x].count k
 |[],i,x,k,hi=>by simp at hi
 |c::t,0,x,k,hi=>by simp only[a_,cX,List.getElem_cons_zero,List.count_nil];omega
 |c::t,i+1,x,k,hi=>by have:=Dr t i x k (by simpa using hi);simp only[be,cX,List.getElem_cons_succ,List.count_nil]at this ⊢;omega
theorem Xo (hl:h.names.length=h.slots.length) (X:EX h (k::E)) (hd:∀y∈h.slots,FP h 3 y):
 EX (fd h s k) E/\KV h (fd h s k)/\(fd h s k).copies=h.copies/\((∃p:Nat,ix h.names s 0=(p:Int)/\p<h.slots.length/\(fd h s k).names=h.names/\(fd h s k).slots=h.slots.set p k)\/(ix h.names s 0<0/\(fd h s k).names=h.names++[s]/\(fd h s k).slots=h.slots++[k])):=by
 unfold fd;by_cases hi:0<=ix h.names s 0
 ·rw[aN hi];obtain⟨p,hp⟩:=bQ hi;have hg:=(pY h.names s 0).2;have mD:p<h.slots.length:=dP;have hs:slotD h s=h.slots[p]:=wi;rw[hp,aU,hs];have X2:EX {h with slots:=h.slots.set p k} (h.slots[p]::E):=by refine⟨λj=>?_,X.v,X.z⟩;have h1:=X.c j;have h2:=Dr h.slots p k j mD;show (celD h j).count=(((h.slots.set p k++h.cells.flatMap (·.parts)).count j+(h.slots[p]::E).count j:Nat):Int);rw[h1];show (((h.slots++h.cells.flatMap (·.parts)).count j+(k::E).count j:Nat):Int)=_;simp only[bT,cX,List.count_nil]at h2 ⊢;omega
  have hfp:=hd _ (dA mD);have QO:qU {h with slots:=h.slots.set p k} 3 h.slots[p]:=qJ (h:=h) ⟨rfl,λ_=> .inl rfl⟩ (OP hfp);obtain⟨r1,r2⟩:=Ph 5 3 _ _ E QO dP X2;obtain⟨n1,n2,n3⟩:=ug 5 {h with slots:=h.slots.set p k} h.slots[p];exact⟨r1,r2,n3,.inl ⟨p,rfl,mD,n1,n2⟩⟩
 ·rw[aH hi];refine⟨⟨λj=>?_,X.v,X.z⟩,KV.refl,rfl,.inr ⟨by omega,rfl,rfl⟩⟩;have h1:=X.c j;show (celD h j).count=((((h.slots++[k])++h.cells.flatMap (·.parts)).count j+E.count j:Nat):Int);rw[h1];show (((h.slots++h.cells.flatMap (·.parts)).count j+(k::E).count j:Nat):Int)=_;simp only[bT,cX,List.count_nil];omega
theorem qE (h:v.parts=[]):noParts v=v:=by obtain⟨a,b,c,d,e,f,g,i⟩:=v;simp only at h;subst h;rfl
theorem Ki {l:List Vec} (h:v.parts=l):{noParts v with parts:=l}=v:=by obtain⟨a,b,c,d,e,f,g,i⟩:=v;simp only at h;subst h;rfl
theorem Pl:∀(f d:Nat) (h:Hp) (v:Vec),okD d v=true->d<f->FP (fL f h v).1 d (fL f h v).2/\asm (fL f h v).1 d (fL f h v).2=v
 |0,d,h,v,_,hf=>by omega
 |f+1,d,h,v,hv,hf=>by
  obtain⟨hp,hp40⟩:=n7 hv;have F:=FV.of (jB hv);have key:∀(d':Nat) (l:List Vec) (s:Hp × List Int) (dn:List Vec),(∀p∈l,okD d' p=true)->d'<f->(∀k∈s.2,FP s.1 d' k)->s.2.map (asm s.1 d')=dn->
   (∀k∈(l.foldl (js (fL f)) s).2,FP (l.foldl (js (fL f)) s).1 d' k)/\(l.foldl (js (fL f)) s).2.map (asm (l.foldl (js (fL f)) s).1 d')=dn++l:=by
   intro d' l
   induction l with
   |nil=>intro s dn _ _ a b;exact⟨a,by simpa using b⟩
   |cons p t ih=>
    intro s dn hl hd a b;obtain⟨q1,q2⟩:=Pl f d' s.1 p (hl p aT) hd;have K:=VG f s.1 p;rw[bC];obtain⟨i1,i2⟩:=ih (js (fL f) s p) (dn++[p]) (λq hq=>hl q (aP _ hq)) hd (λk hk=>by
     rcases aG.1 (show k∈s.2++[(fL f s.1 p).2] from hk) with hk|hk
     ·exact(qX K (a k hk)).1
     ·obtain rfl:k=(fL f s.1 p).2:=jg;exact q1) (by
     show (s.2++[(fL f s.1 p).2]).map (asm (fL f s.1 p).1 d')=dn++[p];rw[aI,br,bL,q2,<-b,cT λk hk=>(qX K (a k hk)).2])
    exact⟨i1,by rw[i2];simp⟩
  rw[fL];cases d with
  |zero=>
   have hz:v.parts=[]:=by rw[okD]at hv;simp only[ax,dh]at hv;exact hv.2
   rw[hz,dK];obtain⟨n,t1,t2,t3,t4,t5⟩:=qG h ⟨1,noParts v,[]⟩;have hn:celD (gH h ⟨1,noParts v,[]⟩).1 (n:Int)=⟨1,noParts v,[]⟩:=by rw[t4,aN rfl]
   simp only;rw[t1,FP,asm,hn];exact⟨⟨by show (0:Int)<1;omega,rfl⟩,Ki hz⟩
  |succ d=>
   obtain⟨k1,k2⟩:=key d v.parts (h,[]) [] (λp Mb=>by obtain⟨d',e,hd'⟩:=hp p Mb;obtain rfl:d=d':=dP;exact hd') dP dR rfl;generalize v.parts.foldl (js (fL f)) (h,[])=s at k1 k2;rw[cJ]at k2;obtain⟨n,t1,t2,t3,t4,t5⟩:=qG s.1 ⟨1,noParts v,s.2⟩;have hn:celD (gH s.1 ⟨1,noParts v,s.2⟩).1 (n:Int)=⟨1,noParts v,s.2⟩:=by rw[t4,aN rfl]
   have K:=CP s.1 ⟨1,noParts v,s.2⟩;have gK:s.2.length=v.parts.length:=by rw[<-k2,au]
   rw[t1,FP,asm,hn];refine⟨⟨by show (0:Int)<1;omega,?_,λp Mb=>(qX K (k1 p Mb)).1⟩,?_⟩
   ·by_cases hz:s.2=[]
    ·exact .inl hz
    ·refine .inr ⟨F.np ?_,by show s.2.length<=40;omega⟩;have:0<s.2.length:=List.length_pos_iff.2 hz;omega
   ·refine Ki ?_;show v.parts=s.2.map (asm _ d);rw[cT λk hk=>(qX K (k1 k hk)).2,k2]
theorem VF:∀(f d:Nat) (h:Hp) (v:Vec),okD d v=true->d<f->d<=3->GD h->GD (fL f h v).1
 |0,d,h,v,_,hf,_,_=>by omega
 |f+1,d,h,v,hv,hf,h3,G=>by
  have hp:=(n7 hv).1;have key:∀(l:List Vec) (s:Hp × List Int),(∀p∈l,p∈v.parts)->GD s.1->GD (l.foldl (js (fL f)) s).1:=by
   intro l
   induction l with
   |nil=>intro s _ Y;exact Y
   |cons p t ih=>
    intro s hl Y;rw[bC];obtain⟨d',e,hd'⟩:=hp p (hl p aT);exact ih _ (λq hq=>hl q (aP _ hq)) (VF f d' s.1 p hd' dP dP Y)
  have hf1:=(Pl (f+1) d h v hv hf).1;have up:∀(e:Nat),d+e=3->FP (fL (f+1) h v).1 3 (fL (f+1) h v).2:=by
   have:∀e,FP (fL (f+1) h v).1 (d+e) (fL (f+1) h v).2:=λe=>by
    induction e with
    |zero=>exact hf1
    |succ e ih=>exact Y7 ih
   intro e he;rw[<-he];exact this e
  have h4:=up (3 - d) dP;rw[fL]at h4 ⊢;exact Rs (key v.parts (h,[]) (λp h=>h) G) h4
structure SL (h:Hp):Prop where
 l:h.names.length=h.slots.length
 n:∀(i:Nat) (s:Str),h.names[i]?=some s->isNm s=true/\(h.names.take i).contains s=false
 f:∀y∈h.slots,FP h 3 y/\isVec (asm h 3 y)=true
theorem SL.of (hk:fG h=true):SL h:=by
 obtain⟨h1,h2,h3⟩:=jc hk;refine⟨h1,λi s hs=>?_,λy hy=>?_⟩
 ·have h4:=iC.1 h3 i s hs;simp only[s7,ax,cQ]at h4;exact h4.1.1
 ·obtain⟨i,hi⟩:=dB.1 hy;have hil:=(ay.1 hi).1;have h4:=iC.1 h3 i _ (aw (by omega:i<h.names.length));simp only[hi,bV,s7,ax]at h4;exact⟨Kv.2 h4.1.2,h4.2⟩
theorem UU:Le zeroV=true:=by simp [Le,zeroV]
theorem rj (X:EX h []) (S:SL h) (hc:0<=h.copies):fG h=true:=by
 refine DF S.l hc ?_ ?_ ?_
 ·rw[aV];exact λk hk=>j7 (X.ref hk)
 ·refine iC.2 λi c hi=>?_;have hil:=(ay.1 hi).1;have h1:=X.c (i:Int);have h2:=X.v (i:Int);have h3:=X.z (i:Int);rw[iI hi]at h1 h2 h3;simp only[m9,ax,bX,aL];refine⟨⟨by rw[pM _ hil,h1];simp,by rw[h2];rfl⟩,?_⟩;by_cases h0:c.count=0
  ·obtain⟨a,b⟩:=h3 h0;exact .inr ⟨by rw[a];rfl,by rw[b];exact UU⟩
  ·exact .inl h0
 ·refine iC.2 λi s hi=>?_;have hil:=(ay.1 hi).1;have hl:=S.l;have e:h.slots[i]?=some h.slots[i]:=aw dP;obtain⟨a,b⟩:=S.n i s hi;obtain⟨c,d⟩:=S.f h.slots[i] (dA _);rw[e,bV];simp only[s7,ax,cQ];exact⟨⟨⟨a,b⟩,Kv.1 c⟩,d⟩
theorem SL.ku (S:SL h) (K:KU h g) (e1:g.names=h.names) (e2:g.slots=h.slots):SL g:=by refine⟨by rw[e1,e2];exact S.l,λi s=>by rw[e1];exact S.n i s,λy hy=>?_⟩;rw[e2]at hy;obtain⟨a,b⟩:=S.f y hy;obtain⟨c,d⟩:=qX K a;exact⟨c,by rw[d];exact b⟩
theorem LF (S:SL h) (X:EX h (k::E)) (hs:isNm s=true) (hf:FP h 3 k) (hv:isVec (asm h 3 k)=true):
 EX (fd h s k) E/\SL (fd h s k)/\KV h (fd h s k)/\(fd h s k).copies=h.copies/\((∃p:Nat,ix h.names s 0=(p:Int)/\p<h.slots.length/\(fd h s k).names=h.names/\(fd h s k).slots=h.slots.set p k)\/(ix h.names s 0<0/\(fd h s k).names=h.names++[s]/\(fd h s k).slots=h.slots++[k])):=by
 obtain⟨b1,b2,b3,b4⟩:=Xo S.l X (λy hy=>(S.f y hy).1);have hm:∀y∈(fd h s k).slots,y=k\/y∈h.slots:=λy hy=>by
  rcases b4 with ⟨p,-,-,-,e⟩|⟨-,-,e⟩
  ·rw[e]at hy;rcases List.mem_or_eq_of_mem_set hy with h1|h1
   ·exact .inr h1
   ·exact .inl h1
  ·rw[e]at hy;rcases aG.1 hy with h1|h1
   ·exact .inr h1
   ·exact .inl mt
 refine⟨b1,⟨?_,λi t ht=>?_,λy hy=>?_⟩,b2,b3,b4⟩
 ·have:=S.l;rcases b4 with ⟨p,-,-,e,e'⟩|⟨-,e,e'⟩<;>(rw[e,e'];simp;omega)
 ·rcases b4 with ⟨p,-,-,e,e'⟩|⟨hi,e,e'⟩
  ·rw[e]at ht ⊢;exact S.n i t ht
  ·rw[e]at ht ⊢;by_cases hil:i<h.names.length
   ·rw[cY hil]at ht;rw[List.take_append_of_le_length dP];exact S.n i t ht
   ·have hie:i=h.names.length:=by have:=(ay.1 ht).1;simp at this;omega
    subst hie;simp at ht;subst ht;refine⟨hs,?_⟩;rw[List.take_append_of_le_length (af _),cC,<-UW h.names s 0];simp;omega
 ·have hu:=b1.slot hy;rcases hm y hy with rfl|h1
  ·obtain⟨c,d⟩:=Dx b2 b1 hf hu;exact⟨c,by rw[d];exact hv⟩
  ·obtain⟨a,b⟩:=S.f y h1;obtain⟨c,d⟩:=Dx b2 b1 a hu;exact⟨c,by rw[d];exact b⟩
theorem RY (X:EX h E) (c:Int):EX {h with copies:=c} E:=⟨X.c,X.v,X.z⟩
theorem nY {h:Hp} (c:Int):∀{d:Nat} {k:Int},(FP {h with copies:=c} d k↔FP h d k)/\asm {h with copies:=c} d k=asm h d k
 |0,k=>⟨Iff.rfl,rfl⟩
 |d+1,k=>by
  have e:asm {h with copies:=c} d=asm h d:=funext λj=>(nY c).2;have e2:∀j,FP {h with copies:=c} d j↔FP h d j:=λj=>(nY c).1;rw[FP,FP,asm,asm,e];refine⟨?_,rfl⟩;constructor
  ·rintro⟨a,b,q⟩;exact⟨a,b,λp hp=>(e2 p).1 (q p hp)⟩
  ·rintro⟨a,b,q⟩;exact⟨a,b,λp hp=>(e2 p).2 (q p hp)⟩
theorem R2 (G:GD h) (c:Int):GD {h with copies:=c}:=λk hk=>(nY c).1.2 (G k hk)
theorem S8 (S:SL h) (c:Int):SL {h with copies:=c}:=⟨S.l,S.n,λy hy=>by obtain⟨a,b⟩:=S.f y hy;exact⟨(nY c).1.2 a,by rw[(nY c).2];exact b⟩⟩
def ZR (x:Item):Str:=if x.num=1 then[84,82,85,69] else[70,65,76,83,69]
theorem abQ (h1:0<=x.num) (h2:x.num<2):([sv [70,65,76,83,69],sv [84,82,85,69]]:List Value)[x.num.toNat]?=some (sv (ZR x)):=by rcases(show x.num=0\/x.num=1 by omega) with h|h<;>simp [ZR,h]
theorem Yc {α:Type} {A:Bool->α} {x:Item}:(if x.num=0 then if x.den=0 then if x.text=[] then A true else A false else A false else A false)=A (eI x):=by
 cases x with
 |mk a b c=>
  rw[show eI ⟨a,b,c⟩=decide (a=0/\b=0/\c=[]) by rw[bg];simp [eI]];by_cases h1:a=0<;>by_cases h2:b=0<;>by_cases h3:c=[]<;>simp [h1,h2,h3]
def sI (frm tk:Int) (x:Item):Item:=if tk≠3\/frm=3\/eI x=true then x else if frm=1 then sN (ZR x) else sN (qq x)
theorem TY (h:tk≠3\/frm=3\/eI x=true):sI frm tk x=x:=by unfold sI;rw[aN h]
theorem W9 (h:¬(tk≠3\/frm=3\/eI x=true)) (h2:frm=1):sI frm tk x=sN (ZR x):=by unfold sI;rw[aH h,aN h2]
theorem W_ (h:¬(tk≠3\/frm=3\/eI x=true)) (h2:¬frm=1):sI frm tk x=sN (qq x):=by unfold sI;rw[aH h,aH h2]
theorem Dh (x:Item) (h1:1<=frm) (h2:frm<=tk) (h3:tk<=3):sI frm tk x=gI frm tk x:=by
 unfold sI gI ZR;rcases(show tk=1\/tk=2\/tk=3 by omega) with rfl|rfl|rfl
 ·obtain rfl:frm=1:=dP;simp
 ·simp
 ·rcases(show frm=1\/frm=2\/frm=3 by omega) with rfl|rfl|rfl<;>simp<;>(try split)<;>(try split)<;>simp_all
theorem Nw (x:Item) (frm tk:Int) (hn:frm=1->0<=x.num/\x.num<2) (w:World):Calls prog 166 #[frm,tk,Me x] w λe w'=>e= .returned (Me (sI frm tk x))/\Below w.heap.size w w':=by
 have HN:=aa hn;have HMI:=aa (show eI x=eI x from rfl);clear hn;have M:Mem prog w [] w []:=Mem.start;go_enter func166,ntmps166;refine Sq (Sa M (λJ1 wv M=>?_));refine Sa M (λJ2 wv M=>Sz (ae (Sq ?_)));refine Sb M [] 3 ?_;refine So ((bif ((tk:Int) != (3:Int)) then undef else .int .i64 frm)) (λK Z hK=>by rcases ac (((tk:Int) != (3:Int))) with hg|hg<;>simp only[hg,ar,ak,aD,aB,az,aq,aj,am]at hK<;>go_simp<;>exact hK) ?_;refine So ((bif ((tk:Int) != (3:Int)) then undef else .bool ((frm:Int)==(3:Int)))) (λK Z hK=>by rcases ac (((tk:Int) != (3:Int))) with hg|hg<;>simp only[hg,ar,ak,aD,aB,az,aq,aj,am]at hK<;>go_simp<;>exact hK) ?_;refine So (.bool (((tk:Int) != (3:Int))||((frm:Int)==(3:Int)))) (λK Z hK=>by rcases ac (((tk:Int) != (3:Int))) with hg|hg<;>simp only[hg,ar,ak,aD,aB,az,aq,aj,am]at hK<;>go_simp<;>exact hK) ?_;refine Sb M [] 1 ?_;refine So ((bif (((tk:Int) != (3:Int))||((frm:Int)==(3:Int))) then undef else .agg #[x.num,x.den,sv x.text])) (λK Z hK=>by have hc:=(M.bl 1 rfl).cells;simp only[ju,Nat.reduceAdd]at hc;(repeat (obtain⟨c,hc⟩:=hc));rcases ac ((((tk:Int) != (3:Int))||((frm:Int)==(3:Int)))) with hg|hg<;>simp only[hg,ar,ak,aD,aB,az,aq,aj,am]at hK<;>go_simp<;>exact hK) ?_;refine So ((bif (((tk:Int) != (3:Int))||((frm:Int)==(3:Int))) then undef else .agg #[.int .i64 0,.int .i64 0,sv []])) (λK Z hK=>by rcases ac ((((tk:Int) != (3:Int))||((frm:Int)==(3:Int)))) with hg|hg<;>simp only[hg,ar,ak,aD,aB,az,aq,aj,am]at hK<;>go_simp<;>exact hK) ?_;replace M:=M.up [1];refine So ((bif (((tk:Int) != (3:Int))||((frm:Int)==(3:Int))) then undef else .bool (eI x))) (λK Z hK=>by
  have kB:=M.bl 0 rfl;have c0:wv.cell? _=some _:=kB.cell 0;have c1:wv.cell? _=some _:=kB.cell 1;have c2:wv.cell? _=some _:=kB.cell 2;clear kB M;rcases ac ((((tk:Int) != (3:Int))||((frm:Int)==(3:Int)))) with hg|hg<;>simp only[hg,aD,aB]at hK<;>go_simp
  ·exact hK
  ·rw[Yc (A:=λb=>Result.ok (Next.value (Value.bool b)) wv)];exact hK) ?_
 refine So (.bool ((((tk:Int) != (3:Int))||((frm:Int)==(3:Int)))||(eI x))) (λK Z hK=>by rcases ac ((((tk:Int) != (3:Int))||((frm:Int)==(3:Int)))) with hg|hg<;>simp only[hg,ar,ak,aD,aB,az,aq,aj,am]at hK<;>go_simp<;>exact hK) (Sz ?_);refine lW (λh1=>?_) (λh1=>?_)
 ·rw[h1];replace h1:=aa h1;refine Sq (Sb M [0] 1 ?_);refine Ss M 1 (λwv M=>Sz (aO (fI ?_)));refine kN results166 M 1 ?_;exact⟨by rw[TY (by have q:=h1.out;simpa [or_assoc]using q)];try rfl,M.bel⟩
 ·rw[h1];replace h1:=aa h1;refine bd (dV (ae (Ra M [] ?_)));refine lW (λh2=>?_) (λh2=>?_)
  ·rw[h2];replace h2:=aa h2;refine Sq (Sa M (λJ3 wv M=>?_));refine Sb M [1] 2 ?_;refine So (.pointer (some ⟨J3.b,x.num.toNat,none⟩)) (λK Z hK=>by obtain⟨z1,z2⟩:=HN.out (by have q:=h2.out;simpa using q);go_simp;exact hK) ?_
   refine So (sv (ZR x)) (λK Z hK=>by obtain⟨z1,z2⟩:=HN.out (by have q:=h2.out;simpa using q);have c:wv.cell? _=some (sv (ZR x)):=((M.bl 0 rfl).cell x.num.toNat).trans (abQ z1 z2);clear M;go_simp;exact hK) ?_
   refine Sc (aF (t9 ((ZR x)) _) ?_);rintro e w' ⟨rfl,hb⟩;replace M:=M.next hb;refine Sp ?_;refine Ss M 2 (λwv M=>Sz (aO (fI ?_)));refine kN results166 M 2 ?_;exact⟨by rw[W9 (λhh=>by have q:=h1.out;simp at q;simp_all) qk];try rfl,M.bel⟩
  ·rw[h2];replace h2:=aa h2;refine bd (dV (Sq (Sb M [0] 1 ?_)));refine Sc (aF (vX x _) ?_);rintro e w' ⟨rfl,hb⟩;replace M:=M.next hb;refine Sp ?_;refine Sc (aF (t9 ((qq x)) _) ?_);rintro e w' ⟨rfl,hb⟩;replace M:=M.next hb;refine Sp ?_;refine Ss M 1 (λwv M=>Sz (aO ?_));refine kN results166 M 1 ?_;exact⟨by rw[W_ (λhh=>by have q:=h1.out;simp at q;simp_all) qk];try rfl,M.bel⟩
theorem ro:∀f:Nat,vD f
 |0=>λh k g F w H hok=>by rw[relOK]at hok;exact hok.elim
 |f+1=>IH f (ro f)
theorem vC (h:Hp) (s:Str) (k:Int) (g:Nat) (F:List Nat) (w:World) (H:HB w g h F) (hs:s.length<=maxLen) (hk:(Lit.int .i64 k).wf=true) (hl:h.names.length=h.slots.length) (hn:(h.names.length:Int)<=1073741824)
 (hR:hasN h s=true->relOK 5 {h with slots:=h.slots.set (ix h.names s 0).toNat k} (slotD h s)):
 Calls prog 50 #[.pointer (some ⟨g,0,none⟩),sv s,k] w λe w'=>e= .returned (.tuple #[])/\∃F',HB w' g (fd h s k) F'/\Sub w.heap.size F F'/\Mod (g::F) w w':=by
 have JA:=H.lt;have XR:=H.lo;have sM:=H.nd;have mT:=pY h.names s 0;cases hb:hasN h s with
 |false=>
  have xe:fd h s k={h with names:=h.names++[s],slots:=h.slots++[k]}:=by unfold fd;rw[aH sk]
  obtain⟨Ac,nc,cc,An,nn,cn,As,ns,cs,Fc,Fn,Fs,kB,rfl,o1,o2,o3,wf⟩:=H.open_;have xf:=ef (eW _ _ _ _ o2);have hl3:=ef (eW _ _ _ _ o3);rw[au]at xf hl3;obtain⟨Ct,CE,Hw,he,-,-,hr,-⟩:=(ls _ _ _ _).1 (eW _ _ _ _ o2);injection he with he;injection he with f1 f2 f3;subst f1 f2 f3
  have R5:=gG An nn cn h.names s w hr dP;have h0:ix h.names s 0<0:=by simp only[hasN,bB]at hb;omega
  have hnn:(nn:Int)<=1073741824:=dP;have hns:(ns:Int)<=1073741824:=dP;have TN:=aa xe;obtain⟨g0,g1,g2,g3⟩:=kB.c4;have fz1:=kB.frozen 1;have fz2:=kB.frozen 2;have nF:=aE.1 (aQ.1 sM).2;have nG:=aE.1 nF.2.1;have Ts:=aa xf;have HL3:=aa hl3;clear hb xe hR hl xf hl3 hr mT hn;go_enter func50,ntmps50;go_wp2_with fail;refine R5.mono ?_;rintro e w1 ⟨rfl,rfl⟩;have x1:Below w.heap.size w (w.alloc (.cells #[sv s] 9)):=(Below.refl _ _).alloc (af _) _;have kn1:Blk (w.alloc (.cells #[sv s] 9)) w.heap.size 9 [sv s]:=Blk.new' (l:=[sv s]);have Ox:=(aQ.1 sM).1;go_wp2_with (first|(at_builtin;refine n8 (xs:=h.names.map D.s) (F:=Fn) (d:=D.s s) (F':=[]) (b:=w.heap.size) (m:=1) (te:=9) (cs:=[sv s]) jm dU rfl _ _ rfl rfl (em o2 x1) rfl kn1 (by rw[own];exact⟨rfl,rfl,hs⟩) rfl (by simpa using nG.1) eb dP ?_;intro gg gc w2 F2 PP ap md;have kg2:=Blk.mod (g:=g) (kB.next x1) md (λhm=>Ox eV);have md1:Mod (g::(Fc++(Fn++(Fs++[])))) w (w2.setCell ⟨g,1,none⟩ (.slice (some ⟨gg,0,none⟩) (nn+1) gc)):=iV (iV (gU Mod.refl x1) md (λy hy=>by simp [hy])) (Mod.poke (F:=g::(Fc++(Fn++(Fs++[])))) dR _) (λ_ h=>h);obtain⟨h0,h1,h2,h3⟩:=kg2.c4;have fg1:=kg2.frozen 1;have fg2:=kg2.frozen 2;obtain⟨F3,H3,s3⟩:=HB.names_app (kB.next x1) (em o1 x1) (em o3 x1) wf sM (XR.mono dR) PP ap md;replace s3:=s3.low (B:=w.heap.size) dR;have hnd3:=H3.nd;have hlo3:=H3.lo;have hgs3:=H3.lt;obtain⟨Ac3,nc3,cc3,An3,nn3,cn3,As3,ns3,cs3,Fc3,Fn3,Fs3,kB3,rfl,p1,p2,p3,Wa⟩:=H3.open_;obtain⟨rfl,rfl,rfl,rfl,rfl,rfl,rfl,rfl,rfl⟩:=pz (h:={h with names:=h.names++[s]}) (kg2.set_ 1 (.slice (some ⟨gg,0,none⟩) (nn+1) gc)) kB3;have zb:=dX w2 ⟨g,1,none⟩ (.slice (some ⟨gg,0,none⟩) (nn+1) gc);simp only[dX]at hlo3 hgs3;have x3:Below w2.heap.size (w2.setCell ⟨g,1,none⟩ (.slice (some ⟨gg,0,none⟩) (nn+1) gc)) ((w2.setCell ⟨g,1,none⟩ (.slice (some ⟨gg,0,none⟩) (nn+1) gc)).alloc (.cells #[k] 3)):=(Below.refl _ _).alloc qm _;have kn3:Blk ((w2.setCell ⟨g,1,none⟩ (.slice (some ⟨gg,0,none⟩) (nn+1) gc)).alloc (.cells #[k] 3)) w2.heap.size 3 [k]:=by(have:=Blk.new' (w:=w2.setCell ⟨g,1,none⟩ (.slice (some ⟨gg,0,none⟩) (nn+1) gc)) (t:=3) (l:=[.int .i64 k]);rwa [zb]at this))|(at_builtin;refine n8 (xs:=h.slots.map (D.i .i64)) (F:=Fs3) (d:=D.i .i64 k) (F':=[]) (b:=w2.heap.size) (m:=1) (te:=3) (cs:=[.int .i64 k]) Kh dU rfl _ _ rfl rfl (fK p3) rfl kn3 (by rw[own];exact⟨rfl,rfl,hk⟩) rfl BQ eb dP ?_;intro gh gd w5 F5 o5 ap5 md5;have kg5:=Blk.mod (g:=g) kB3.al md5 (λhm=>(aQ.1 hnd3).1 eV);obtain⟨h0',h1',h2',h3'⟩:=kg5.c4;have fg5:=kg5.frozen 2));refine bM (v:= .tuple #[]) (by simp [results,results50,go_sem]) rfl ?_;rw[TN.out];obtain⟨F6,H6,s6⟩:=HB.slots_app (h:={h with names:=h.names++[s]}) kB3.al (fK p1) (fK p2) Wa hnd3 (hlo3.mono fC) o5 ap5 md5;replace s6:=s6.low (B:=w2.heap.size) fC;have e1:Fc++(Fn++(Fs++[]))=Fc++(Fn++Fs):=by rw[bP]
  rw[e1]at s3 md1;exact⟨rfl,F6,H6,s3.trans s6 (by have:=md.size;simp only[dT]at this;omega),nO md1 (iV (iV (gU Mod.refl ((Below.refl _ _).alloc (af _) _)) md5 (λy hy=>by simp [hy])) (Mod.poke (F:=g::(Fc3++(Fn3++(Fs3++[])))) dR _) (λ_ h=>h)) (kj s3) (af _)⟩
 |true=>
  have h0:0<=ix h.names s 0:=sk;obtain⟨i,hi⟩:=bQ h0;have hil:i<h.slots.length:=dP;have xe:fd h s k=iD 5 {h with slots:=h.slots.set i k} (slotD h s):=by unfold fd;rw[aN h0,hi,aU]
  have Tu:=hR hb;rw[hi,aU]at Tu;have TB:h.slots[i]?=some (slotD h s):=Ca;obtain⟨y,hy⟩:∃y,y=slotD h s:=⟨_,rfl⟩;rw[<-hy]at Tu TB xe;obtain⟨Ac,nc,cc,An,nn,cn,bs,ns,cs,kB,hsn,hsm,e0,e1,Po,hbg,H1⟩:=H.slot_set TB hk;obtain⟨L4,JS,L7,Ct,CE,Hw,Wl,WG,cs',Fc,Fn,Fs,IG,hF,o1,o2,o3,wf⟩:=H.open_;obtain⟨rfl,rfl,rfl,rfl,rfl,rfl,rfl,rfl,rfl⟩:=pz kB IG;have xf:=ef (eW _ _ _ _ o2);rw[au]at xf;obtain⟨Ct,CE,Hw,he,-,-,hr,-⟩:=(ls _ _ _ _).1 (eW _ _ _ _ o2);injection he with he;injection he with f1 f2 f3;subst f1 f2 f3
  have R5:=gG An nn cn h.names s w hr dP;rw[hi]at R5;have TN:=aa xe;have hlt:(i:Int)<(ns:Int):=dP;have i0:(0:Int)<=(i:Int):=dP;have HR2:=aa Tu;obtain⟨g0,g1,g2,g3⟩:=kB.c4;clear hb xe hR hl xf hr mT hn hi h0 hil TB hy Tu IG hsn o1 o2 o3 hF;go_enter func50,ntmps50;go_wp2_with fail;refine R5.mono ?_;rintro e w1 ⟨rfl,rfl⟩;go_wp2_with fail;refine(ro 5 _ y g F _ H1 HR2.out).mono ?_;rintro e w3 ⟨rfl,F3,H3,s3,m3⟩;go_wp2_with fail;refine bodyPost_end (v:= .tuple #[]) (by simp [results,results50,go_sem]) rfl ?_;rw[TN.out];have md:Mod (g::F) w (w.setCell ⟨bs,i,none⟩ (.int .i64 k)):=Mod.poke (by simp [Po]) _;exact⟨rfl,F3,H3,s3.low qm,nO md m3 Sub.refl (af _)⟩
end Go.Proofs.YtekcpadlmfaihaaGreat
