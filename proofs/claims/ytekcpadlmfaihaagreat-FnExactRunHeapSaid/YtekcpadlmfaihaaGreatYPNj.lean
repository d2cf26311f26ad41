/- Nhw, Nsw. -/
import Derived.Test.YtekcpadlmfaihaaGreatYLI
import Derived.Test.YtekcpadlmfaihaaGreatYNF
import Derived.Test.YtekcpadlmfaihaaGreatYS
namespace Go.Proofs.YtekcpadlmfaihaaGreat
open Go.RowKit Proofs.Tryz
set_option maxHeartbeats 8000000
set_option maxRecDepth 100000
set_option linter.unusedSimpArgs false
set_option linter.unusedVariables false
variable {h:Hp} {R:List As} {X:List Nat} {B:Nat} {k:Value} {v:Vec} {w w0:World}
theorem gQ {k a:Int} {nm fr:Str} {cs:List Value} (h:rep w B (Hop.toD ⟨k,nm,fr,a,v⟩) cs):∃(Ai:Option Addr) (ci:Nat) (Ap:Option Addr) (cp:Nat) (An:Option Addr) (cn:Nat) (Ac:Option Addr) (cc:Nat) (Al:Option Addr) (cl:Nat),
 cs=[.int .i64 k,sv nm,sv fr,.int .i64 a,.int .i64 v.kind,.slice Ai v.items.length ci,.slice Ap v.parts.length cp,.slice An v.names.length cn,.slice Ac v.cls.length cc,.slice Al v.levels.length cl,.int .i64 v.code,.int .i64 v.env]/\nm.length<=maxLen/\fr.length<=maxLen/\(Lit.int .i64 a).wf=true/\
 rep w B v.toD [v.kind,.slice Ai v.items.length ci,.slice Ap v.parts.length cp,.slice An v.names.length cn,.slice Ac v.cls.length cc,.slice Al v.levels.length cl,v.code,v.env]:=by
 obtain⟨Ai,ni,ci,Ap,np,cp,An,nn,cn,Ac,nc,cc,Al,nl,cl,rfl,-,w1,w2,w3,hr⟩:=lQ h;obtain⟨_,_,_,_,_,_,_,_,_,_,he,-⟩:=d_ hr;simp only[bF,bG,dy,cO]at he;obtain⟨⟨rfl,rfl,rfl⟩,⟨rfl,rfl,rfl⟩,⟨rfl,rfl,rfl⟩,⟨rfl,rfl,rfl⟩,⟨rfl,rfl,rfl⟩⟩:=he;exact⟨Ai,ci,Ap,cp,An,cn,Ac,cc,Al,cl,rfl,w1,w2,w3,hr⟩
theorem Rl:∀f:Nat,ab1 40 f
 |0=>λh v g F B cs w _ _ _ _ jV=>by rw[rX]at jV;exact jV.elim
 |f+1=>ab2 f (Rl f)
theorem L6 {f:Nat} {args:Array Value} {Ψ:Ending->World->Prop} (hc:Calls prog f args w (gM h.toD 28 w)) (M:Mem prog w0 X w R) (hK:∀(x:Gh) w',Mem prog w0 X w' (.ow h.toD 28 [.slice (x.A 1) h.cells.length (x.C 1),.slice (x.A 2) h.names.length (x.C 2),.slice (x.A 3) h.slots.length (x.C 3),h.copies]::R)->Ψ (.returned (.agg #[.slice (x.A 1) h.cells.length (x.C 1),.slice (x.A 2) h.names.length (x.C 2),.slice (x.A 3) h.slots.length (x.C 3),h.copies])) w'):Calls prog f args w Ψ:=
 hc.mono λe w' hn=>by obtain⟨cs,rfl,M'⟩:=M.newSt hn;obtain⟨Ah,ch,An,cn,Ak,ck,rfl,-⟩:=gV (M'.rp 0 rfl);exact hK (Ow [(none,0),(Ah,ch),(An,cn),(Ak,ck)]) w' M'
theorem Ee:∀f:Nat,Vf f
 |0=>λh v g F B cs w _ _ _ _ jV=>by rw[rX]at jV;exact jV.elim
 |f+1=>SH f (Ee f)
theorem Mem.openHeapL {A1 A2 A3:Option Addr} {n1 c1 n2 c2 n3 c3:Nat} (M:Mem prog w0 X w (.ow h.toD 28 [.slice A1 n1 c1,.slice A2 n2 c2,.slice A3 n3 c3,k]::R)):
 Mem prog w0 X w (.ow (.sl (h.cells.map Cel.toD)) 24 [.slice A1 n1 c1]:: .ow (.sl (h.names.map .s)) 25 [.slice A2 n2 c2]:: .ow (.sl (h.slots.map (.i .i64))) 26 [.slice A3 n3 c3]::R):=by
 obtain⟨_,_,_,_,_,_,he,-,M'⟩:=M.openHeap;simp only[bF,bG,cO]at he;obtain⟨⟨rfl,rfl,rfl⟩,⟨rfl,rfl,rfl⟩,⟨rfl,rfl,rfl⟩,-⟩:=he;exact M'
theorem Mem.kindAt {g n c k:Nat} {l:List Cel} {x:Cel} (M:Mem prog w0 X w (.ow (.sl (l.map Cel.toD)) 24 [.slice (some ⟨g,0,none⟩) n c]::R)) (hk:l[k]?=some x):w.cell? ⟨g,k*10+1,none⟩=some (.int .i64 x.value.kind):=by
 have hr:=M.rp 0 rfl;have hl:=(ef hr).1;rw[au]at hl;obtain⟨b,off,y,_,_,_,_,_,_,_,_,_,_,_,_,h1,_,h2,_,_,_,_,h3,_⟩:=CW hr (k:=k) sa;injection h1 with h1;injection h1 with e1 e2 e3;subst e1 e2;rw[hk]at h2;injection h2 with h2;subst h2
 rwa [bI]at h3
theorem Kz {s1 s2 s3 s4 s5 c e:Value} (h:rep w B v.toD [k,s1,s2,s3,s4,s5,c,e]):rep w B (.sl (v.names.map .s)) [s3]:=by obtain⟨_,_,_,_,_,_,_,_,_,_,he,-,-,-,rn,-⟩:=d_ h;simp only[bF,cO]at he;obtain⟨-,-,-,rfl,-⟩:=he;exact rn
end Go.Proofs.YtekcpadlmfaihaaGreat
