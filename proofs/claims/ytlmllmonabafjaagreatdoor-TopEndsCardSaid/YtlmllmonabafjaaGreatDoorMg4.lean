/- Contracts of the functions that the law reaches, and plain laws; no conditions but those written at each. -/
import Derived.Test.YtlmllmonabafjaaGreatDoorMg3
import Derived.Lib.SliceRun
namespace Go.Proofs.YtlmllmonabafjaaGreatDoor
open Go.Value renaming bool->μ,slice->δ,pointer->π,agg->θ
open Go.IntKind renaming i64->ι,u8->υ,u16->φ,u32->ω,i32->χ,u64->ψ
set_option linter.unusedSimpArgs false
set_option maxHeartbeats 8000000
set_option linter.unusedVariables false
open Go.RowKit
set_option maxRecDepth 100000
structure ItS where
 id:Int
 layer:Int
 key:Bool
 pk:Pk
structure LnS where
 room:Nat
 A:List ItS
 B:List (ItS×Bool)
 C:List (Int×List Int)
 W:List (Int×List Int)
 wanted:Bool
 cur:Int
 tgt:Int
 rw:RwS
 most:Int
 row:Int
 gone:Bool
def Vd (room:Nat) (most src sq st:Int):LnS:=⟨room,[],[],[],[],false,0,0,⟨src,sq,st,false,0,0⟩,most,0,false⟩
def yX (s:LnS) (x:ItS):LnS×Int×Bool:=if s.A.length<s.room then ({s with A:=s.A++[x]},0,false) else ({s with A:=s.A.tail++[x]},(s.A.head?.map (·.id)).getD 0,true)
def xp (s:LnS) (x:ItS):LnS×Int×Bool×Int:=
 if (jj x.layer&&jJ x.pk)=false then (s,0,false,1) else if s.gone then (s,0,false,7) else if s.wanted=false then (s,0,false,5) else ((yX s x).1,(yX s x).2.1,(yX s x).2.2,0)
def xJ (cur tgt layer:Int) (key:Bool):Int×Int×Bool:=
 if layer=cur then (cur,0,false) else if layer=tgt then (if key then (layer,0,true) else (cur,5,false)) else (cur,4,false)
def vC (s:LnS) (n:Int):Bool:=if n=1 then decide (0<s.A.length)&&decide (¬s.B.length=s.room) else if n=2 then decide (0<s.B.length) else if n=3 then decide (0<s.C.length) else false
def jf (s:LnS):LnS×Int×Int×Bool:=
 if vC s 1=false then (s,0,0,false) else
 match s.A with
 | []=>(s,0,0,false)
 | x::A=>({s with A:=A,cur:=(xJ s.cur s.tgt x.layer x.key).1,B:=if (xJ s.cur s.tgt x.layer x.key).2.1=0 then s.B++[(x,(xJ s.cur s.tgt x.layer x.key).2.2)] else s.B},x.id,(xJ s.cur s.tgt x.layer x.key).2.1,true)
def kY (r:RwS) (p:Pk) (first:Bool):Pk:={p with sq:=r.sq,st:=(p.st+shL r p.st first)%4294967296,sc:=r.src}
def ul (r:RwS) (p:Pk) (first:Bool):RwS:=⟨r.src,(r.sq+1)%65536,r.st,true,(p.st+shL r p.st first)%4294967296,shL r p.st first⟩
def vf (s:LnS) (o:Int×List Int):LnS×Int×Bool:=if s.C.length<s.room then ({s with C:=s.C++[o]},0,false) else ({s with C:=s.C.tail++[o]},(s.C.head?.map (·.1)).getD 0,true)
def qY (s:LnS):LnS×Int×Bool×Bool:=
 match s.B with
 | []=>(s,0,false,false)
 | (x,f)::B=>((vf {s with B:=B,rw:=ul s.rw x.pk f} (x.id,pkB (kY s.rw x.pk f))).1,(vf {s with B:=B,rw:=ul s.rw x.pk f} (x.id,pkB (kY s.rw x.pk f))).2.1,(vf {s with B:=B,rw:=ul s.rw x.pk f} (x.id,pkB (kY s.rw x.pk f))).2.2,true)
def jo (s:LnS) (acc:Bool):Int×Bool×Bool:=if s.gone then (s.row,true,false) else if acc then (0,false,false) else (s.row+1,s.row+1==s.most,s.row+1==s.most)
def qX (s:LnS) (acc:Bool):LnS×Int×Int×Bool:=
 match s.C with
 | []=>(s,0,0,false)
 | o::C=>
  if (jo s acc).2.2 then ({s with A:=[],B:=[],C:=[],W:=if acc then s.W++[o] else s.W,row:=(jo s acc).1,gone:=(jo s acc).2.1},o.1,7,true)
  else ({s with C:=if acc then C else o::C,W:=if acc then s.W++[o] else s.W,row:=(jo s acc).1,gone:=(jo s acc).2.1},o.1,if acc then 1 else 0,true)
def jO (s:LnS) (n:Int):LnS×Int:=
 if jj n=false then (s,1) else if s.gone then (s,7) else ({s with wanted:=true,cur:=if s.wanted then s.cur else -1,tgt:=n},0)
def zb {α β:Type} (p:α->β->Prop):List α->List β->Prop
 | [],[]=>True
 | a::l,b::m=>p a b/\zb p l m
 | _,_=>False
section
variable {α β:Type} {p p':α->β->Prop}
theorem zb.len: ∀{l:List α} {m:List β},zb p l m->l.length=m.length
 | [],[],_=>rfl
 | _::_,_::_,h=>by simp[zb.len h.2]
 | [],_::_,h=>h.elim
 | _::_,[],h=>h.elim
theorem zb.mono (k: ∀a b,p a b->p' a b): ∀{l:List α} {m:List β},zb p l m->zb p' l m
 | [],[],_=>trivial
 | _::_,_::_,h=>⟨k _ _ h.1,zb.mono k h.2⟩
 | [],_::_,h=>h.elim
 | _::_,[],h=>h.elim
theorem zb.snoc: ∀{l:List α} {m:List β} {a:α} {b:β},zb p l m->p a b->zb p (l++[a]) (m++[b])
 | [],[],_,_,_,k=>⟨k,trivial⟩
 | _::_,_::_,_,_,h,k=>⟨h.1,zb.snoc h.2 k⟩
 | [],_::_,_,_,h,_=>h.elim
 | _::_,[],_,_,h,_=>h.elim
theorem zb.uncons {l:List α} {b:β} {m:List β} (h:zb p l (b::m)): ∃a l',l=a::l'/\p a b/\zb p l' m:=by
 cases l with
 | nil=>exact h.elim
 | cons a l'=>exact⟨a,l',rfl,h.1,h.2⟩
theorem zb.nil_r {l:List α} (h:zb p l ([]:List β)):l=[]:=by
 cases l with
 | nil=>rfl
 | cons a l'=>exact h.elim
theorem zb.mem {l:List α} {m:List β} (h:zb p l m): ∀a∈l,∃b∈m,p a b:=by
 induction l generalizing m with
 | nil=>intro a d;simp at d
 | cons c l ih=>
  cases m with
  | nil=>exact h.elim
  | cons b m=>
   intro a d;rcases List.mem_cons.1 d with rfl | d
   ·exact⟨b,η,h.1⟩
   ·obtain⟨G,H,I⟩:=ih h.2 a d;exact⟨G,by simp[H],I⟩
end
def itC (x:ItS) (vs ve vp:Value):List Value:=[.int .i64 x.id,.int .i64 x.layer,.bool x.key,.bool x.pk.mr,.int .u8 x.pk.ty,.int .u16 x.pk.sq,.int .u32 x.pk.st,.int .u32 x.pk.sc,vs,.bool x.pk.has,.int .u16 x.pk.pr,ve,vp]
def RIt:qL ItS:=λw cs x=> ∃vs ve vp,cs=itC x vs ve vp/\PkS w vs ve vp x.pk/\uf x.pk/\jJ x.pk=true
def RCh:qL (ItS×Bool):=λw cs x=> ∃vs ve vp,cs=itC x.1 vs ve vp++[.bool x.2]/\PkS w vs ve vp x.1.pk/\uf x.1.pk/\jJ x.1.pk=true
def ROu:qL (Int×List Int):=λw cs o=> ∃v,cs=[.int .i64 o.1,v]/\SlI .u8 w v o.2/\Byt o.2/\o.2.length<=200
theorem Ff:QQ ROu:=λ_ _ _ _ m ⟨v,d,G,H⟩=>⟨v,d,G.keep m,H⟩
theorem jw.chosen {D:Nat->Prop} {w:World} {c:List Value} {x:ItS} (f:Bool) (h:jw RIt D w c x):jw RCh D w (c++[μ f]) (x,f):=λw' a=>by
 obtain⟨J,I,vp,rfl,d,G,H⟩:=h w' a;exact⟨J,I,vp,rfl,d,G,H⟩
def RgR {α:Type} (n tr te:Nat) (R:qL α) (D:Nat->Prop) (w:World) (r a room:Nat) (l:List α):Prop:=
 ∃f q ci co cd cg css,qN n tr te w r a room f q ci co cd cg css/\zb (jw R D w) q l
section
variable {α:Type} {n tr te:Nat} {R:qL α} {D D':Nat->Prop} {w w':World} {r a room:Nat} {l:List α}
theorem RgR.fit (h:RgR n tr te R D w r a room l):l.length<=room/\1<=room/\room<=8/\r<w.heap.size/\a<w.heap.size:=by
 obtain⟨f,q,J,N,H,I,css,d,G⟩:=h;have:=d.fits;have:=G.len;have:=d.pos;exact⟨τ,τ,τ,qn d.ring,qn d.row⟩
theorem RgR.step {S:Nat->Prop} (h:RgR n tr te R D w r a room l) (k:qg S w w') (aa: ¬S r) (Y: ¬S a) (O: ∀b,S b->D b) (U: ∀b,D' b->D b∨w'.heap.size<=b):RgR n tr te R D' w' r a room l:=by
 obtain⟨f,q,H,I,d,G,css,J,N⟩:=h;exact⟨f,q,H,I,d,G,css,J.away k aa Y,N.mono λc y ab=>(ab.step (k.mono O)).other U⟩
end
def Γj (x:ItS) (a:Option Addr) (b:Nat) (c:Option Addr) (d:Nat) (e:Option Addr) (f:Nat):Mm:=.o
instance (x:ItS) (a:Option Addr) (b:Nat) (c:Option Addr) (d:Nat) (e:Option Addr) (f:Nat):CoeDep Mm (Γj x a b c d e f) (List Value):=⟨[ι x.id,ι x.layer,μ x.key,μ x.pk.mr,υ x.pk.ty,φ x.pk.sq,ω x.pk.st,ω x.pk.sc,δ a x.pk.ss.length b,μ x.pk.has,φ x.pk.pr,δ c x.pk.ex.length d,δ e x.pk.pl.length f]⟩
instance (x:ItS) (a:Option Addr) (b:Nat) (c:Option Addr) (d:Nat) (e:Option Addr) (f:Nat):CoeDep Mm (Γj x a b c d e f) (Array Value):=⟨#[ι x.id,ι x.layer,μ x.key,μ x.pk.mr,υ x.pk.ty,φ x.pk.sq,ω x.pk.st,ω x.pk.sc,δ a x.pk.ss.length b,μ x.pk.has,φ x.pk.pr,δ c x.pk.ex.length d,δ e x.pk.pl.length f]⟩
instance (x:ItS) (a:Option Addr) (b:Nat) (c:Option Addr) (d:Nat) (e:Option Addr) (f:Nat):CoeDep Mm (Γj x a b c d e f) Value:=⟨θ #[ι x.id,ι x.layer,μ x.key,μ x.pk.mr,υ x.pk.ty,φ x.pk.sq,ω x.pk.st,ω x.pk.sc,δ a x.pk.ss.length b,μ x.pk.has,φ x.pk.pr,δ c x.pk.ex.length d,δ e x.pk.pl.length f]⟩
def Γk (x:ItS) (a:Option Addr) (b:Nat) (c:Option Addr) (d:Nat) (e:Option Addr) (f:Nat) (g:Bool):Mm:=.o
instance (x:ItS) (a:Option Addr) (b:Nat) (c:Option Addr) (d:Nat) (e:Option Addr) (f:Nat) (g:Bool):CoeDep Mm (Γk x a b c d e f g) (List Value):=⟨[ι x.id,ι x.layer,μ x.key,μ x.pk.mr,υ x.pk.ty,φ x.pk.sq,ω x.pk.st,ω x.pk.sc,δ a x.pk.ss.length b,μ x.pk.has,φ x.pk.pr,δ c x.pk.ex.length d,δ e x.pk.pl.length f,μ g]⟩
instance (x:ItS) (a:Option Addr) (b:Nat) (c:Option Addr) (d:Nat) (e:Option Addr) (f:Nat) (g:Bool):CoeDep Mm (Γk x a b c d e f g) (Array Value):=⟨#[ι x.id,ι x.layer,μ x.key,μ x.pk.mr,υ x.pk.ty,φ x.pk.sq,ω x.pk.st,ω x.pk.sc,δ a x.pk.ss.length b,μ x.pk.has,φ x.pk.pr,δ c x.pk.ex.length d,δ e x.pk.pl.length f,μ g]⟩
instance (x:ItS) (a:Option Addr) (b:Nat) (c:Option Addr) (d:Nat) (e:Option Addr) (f:Nat) (g:Bool):CoeDep Mm (Γk x a b c d e f g) Value:=⟨θ #[ι x.id,ι x.layer,μ x.key,μ x.pk.mr,υ x.pk.ty,φ x.pk.sq,ω x.pk.st,ω x.pk.sc,δ a x.pk.ss.length b,μ x.pk.has,φ x.pk.pr,δ c x.pk.ex.length d,δ e x.pk.pl.length f,μ g]⟩
section
open _root_.Go.Proofs.Tryz
theorem wQ (v:Value) (l:List Int) (w:World) (h:SlI .u8 w v l) (al:l.length<=1000000):
  Calls prog 50 #[v] w λe w'=>(∃v',e= .returned v'/\w'.ownsRow w.heap.size 5 1 v' l.length (l.map (Value.int .u8)))/\qa w w':=by
 obtain⟨aj,hi,ag,ah,ai⟩:=info_parts (P:=prog) (e:=5) (z:= υ 0) (size:=1) (bytes:=1) ξ;have G:=κ h;obtain⟨ak,cap,rfl,H,I,J,N,d⟩:=h;cases ak with
 | none=>
  obtain rfl:cap=0:=d rfl;obtain rfl:l=[]:=List.eq_nil_of_length_eq_zero τ;clear G H I J N d;have af:=λw=>Lib.run_eql_slice_nil (P:=prog) w 35 5 none 0 0 0 0 underlying35
  go_enter func50,ntmps50
  go_wp2;go_ret;exact⟨⟨_,rfl,World.ownsRow_nil w _ _ _⟩,qa.refl _⟩
 | some ad=>
  clear H I J N d;have Y:(w.alloc (.cells #[] 5)).ownsRow w.heap.size 5 1 (δ (some ⟨w.heap.size,0,none⟩) 0 0) ([]:List Int).length (([]:List Int).map (Value.int .u8)):=World.ownsRow_lit (e:=5) (size:=1) (base:=w.heap.size) w #[] 0 (Nat.le_refl _) (by unfold maxLen;omega) rfl;have ab:=κ Y;clear Y;have af:=λw=>Lib.run_eql_slice_nil (P:=prog) w 35 5 (some ad) l.length cap 0 0 underlying35
  go_enter func50,ntmps50
  go_wp2_with (at_builtin;refine xr _ rfl (.tmp 5) (.tmp 6) 35 rfl w.heap.size 5 aj (υ 0) 1 underlying35 hi ag ah ai rfl _ .u8 [] rfl ab.o _ l rfl (G.o.keep (qa.alloc _ _)) (by simp;omega) ζ (qa.alloc w _).size ?_;intro v2 w2 U O;have ac:=κ U;have aa:Hid (qg (λb=>(δ (some ⟨w.heap.size,0,none⟩) 0 0).ownBlock=some b) (w.alloc (.cells #[] 5)) w2):=κ (qg.of_grown O);clear U O)
  go_ret;refine⟨⟨_,rfl,by simpa using ac.o⟩, ?_⟩;exact((qg.of_more (S:=λb=>b=w.heap.size) (qa.alloc w _)).trans (aa.o.mono λb ae=>by injection ae with e;exact e.symm)).to_more (qa.refl _) (λk e=>by rw[e];exact Nat.le_refl _)
theorem Ad (v:Value) (l:List Int) (w:World) (h:SlI .u32 w v l) (al:l.length<=1000000):
  Calls prog 49 #[v] w λe w'=>(∃v',e= .returned v'/\w'.ownsRow w.heap.size 38 1 v' l.length (l.map (Value.int .u32)))/\qa w w':=by
 obtain⟨aj,hi,ag,ah,ai⟩:=info_parts (P:=prog) (e:=38) (z:= ω 0) (size:=1) (bytes:=4) ξ;have G:=κ h;obtain⟨ak,cap,rfl,H,I,J,N,d⟩:=h;cases ak with
 | none=>
  obtain rfl:cap=0:=d rfl;obtain rfl:l=[]:=List.eq_nil_of_length_eq_zero τ;clear G H I J N d;have af:=λw=>Lib.run_eql_slice_nil (P:=prog) w 61 38 none 0 0 0 0 underlying61
  go_enter func49,ntmps49
  go_wp2;go_ret;exact⟨⟨_,rfl,World.ownsRow_nil w _ _ _⟩,qa.refl _⟩
 | some ad=>
  clear H I J N d;have Y:(w.alloc (.cells #[] 38)).ownsRow w.heap.size 38 1 (δ (some ⟨w.heap.size,0,none⟩) 0 0) ([]:List Int).length (([]:List Int).map (Value.int .u32)):=World.ownsRow_lit (e:=38) (size:=1) (base:=w.heap.size) w #[] 0 (Nat.le_refl _) (by unfold maxLen;omega) rfl;have ab:=κ Y;clear Y;have af:=λw=>Lib.run_eql_slice_nil (P:=prog) w 61 38 (some ad) l.length cap 0 0 underlying61
  go_enter func49,ntmps49
  go_wp2_with (at_builtin;refine xr _ rfl (.tmp 5) (.tmp 6) 61 rfl w.heap.size 38 aj (ω 0) 4 underlying61 hi ag ah ai rfl _ .u32 [] rfl ab.o _ l rfl (G.o.keep (qa.alloc _ _)) (by simp;omega) ζ (qa.alloc w _).size ?_;intro v2 w2 U O;have ac:=κ U;have aa:Hid (qg (λb=>(δ (some ⟨w.heap.size,0,none⟩) 0 0).ownBlock=some b) (w.alloc (.cells #[] 38)) w2):=κ (qg.of_grown O);clear U O)
  go_ret;refine⟨⟨_,rfl,by simpa using ac.o⟩, ?_⟩;exact((qg.of_more (S:=λb=>b=w.heap.size) (qa.alloc w _)).trans (aa.o.mono λb ae=>by injection ae with e;exact e.symm)).to_more (qa.refl _) (λk e=>by rw[e];exact Nat.le_refl _)
end
section
open _root_.Go.Proofs.Tryz
theorem LN (w:World):(zeroValue 253).run prog w= .ok (Γa) w:=by kernel_rfl
theorem zsI:(Builtin.zeroCells (Γa:Value).cells 1).toList=Γa:=by kernel_rfl
theorem zokI:(Γa:List Value).length=13/\ ∀u∈(Γa:List Value),u.oneCell'=true:=⟨rfl,by simp[Value.oneCell']⟩
theorem Ψ2 {P:Prop} (h:P:=by
 have am:=κ h;have ai:=h.ofHead;have Y:c.toArray.size=(Ξa:Nat):=by simpa using ai.1
 have aB:=h.fst;have aQ:(first:Int)<(room:Int):=by have:=h.fst;omega
 have aR:0<=(first:Int):=by omega
 have aS:=h.pos.1;have aT:=h.pos.2;have aU:((c::T).length:Int)<=8:=by have:=h.fits;have:=h.pos.2;omega
 clear h
 go_enter Ξb,Ξc
 go_wp2;obtain⟨W1,ag⟩:=ν (w.alloc (.cells Ξd (Ξe:Nat)));have av:Hid (qa w W1):=κ (by rw[<-ag];exact qa.alloc _ _);have J:Hid (qN (Ξa:Nat) (Ξf:Nat) (Ξe:Nat) W1 R A room first (c::T) ae af ac ad css):=κ (am.o.more av.o);have aj:Hid (W1.heap[w.heap.size]? =some (.cells Ξd (Ξe:Nat) (0,0))):=κ (by rw[<-ag];exact qj w _);have aP:R<w.heap.size:=qn am.o.ring;have aN:A<w.heap.size:=qn am.o.row;rw[ag];have aC:w.heap.size<W1.heap.size:=qn aj.o;generalize aV:w.heap.size=rc at *;clear ag;have aa: ∀x:qt W1,x.w'.cell? ⟨R,0,none⟩=some (δ (some ⟨A,0,none⟩) room room):=λx=>x.cell (qn J.o.ring) (qb J.o.ring 0 rfl)
 have ab: ∀x:qt W1,x.w'.cell? ⟨R,1,none⟩=some (ι first):=λx=>x.cell (qn J.o.ring) (qb J.o.ring 1 rfl)
 refine Qn W1 11 12 [10,11] ?_
 refine Qq9 ?_
 have au: ∀x:qt W1,x.w'.rangeAt A (first* (Ξa:Nat)) c:=λx=>by have:=(J.o.more x.h).range aB;rw[J.o.head] at this;exact this
 refine jh rfl rfl (qk ρ) (Ξe:Nat) (.tmp 12) rfl A (first* (Ξa:Nat)) rfl c _ (λw' aI=>by obtain⟨x,rfl⟩:=aI;exact au x) Ξg rfl (by rw[ai.1];kernel_rfl) ?_;intro K d;go_simp;refine d _ ?_;clear d K
 (refine Ql ?_;intro K d)
 refine⟨qk ρ,d _ _ ?_⟩;clear d K;refine zY rfl rfl ζ ?_;intro K d;refine jr (Ξe:Nat) (.tmp 3) (.tmp 13) rfl W1.heap.size (Ξe:Nat) _ c.toArray rfl rfl (qj _ _) (by rw[Y];kernel_rfl) (by rw[Y];rfl) (all_oneCell_toArray ai.2) ?_;refine⟨trivial, ?_⟩;go_simp;refine d _ _ ?_;clear d K;refine qA ?_;obtain⟨W2,ah⟩:=ν (((W1.drewN 1).alloc (.cells Ξd (Ξe:Nat))).setRow W1.heap.size c.toArray);have ax:Hid (W2.heap[W1.heap.size]? =some (.cells c.toArray (Ξe:Nat) (0,0))):=κ (by rw[<-ah];exact jY (qj _ _) _);have an:Hid (qa W1 W2):=κ (by rw[<-ah];exact(xb _ _ _).to_more (((qa.refl W1).dr 1).al _) (λk e=>by rw[e];exact Nat.le_refl _));have G:=κ (J.o.more an.o);have ap:=κ (qc an.o aj.o);have aO:R<W1.heap.size:=Nat.lt_of_lt_of_le τ (Nat.le_of_lt aC);have aM:A<W1.heap.size:=Nat.lt_of_lt_of_le τ (Nat.le_of_lt aC);rw[ah];generalize W1.heap.size=xc at *;clear ah aa ab au aj J
 go_wp2_with fail
 have aa: ∀x:qz (λb=>b=A) W2,x.w'.cell? ⟨R,0,none⟩=some (δ (some ⟨A,0,none⟩) room room):=λx=>x.cell (qn G.o.ring) G.o.ne (qb G.o.ring 0 rfl)
 have ab: ∀x:qz (λb=>b=A) W2,x.w'.cell? ⟨R,1,none⟩=some (ι first):=λx=>x.cell (qn G.o.ring) G.o.ne (qb G.o.ring 1 rfl)
 refine QN (λb=>b=A) W2 15 15 [14] ?_
 refine Qq ?_
 refine jR rfl rfl ?_;intro K d;have aA:=kW (P:=prog) (W2.drewN 1) (Ξh:Nat) 0 (Ξe:Nat) _ Ξd Ξi Ξj Ξk A (first* (Ξa:Nat)) (room-first) css.flatten.toArray (qr G.o.row 1) (by rw[G.o.size];have:=Nat.mul_le_mul_right (Ξa:Nat) (show first+1<=room by omega);simp;omega) Ξl.2;simp only[List.toList_toArray] at aA;unfold jn;go_simp;refine⟨qi (((qg.refl (λb=>b=A) W2).drewN 1).row (g:=A) rfl _),d _ _ ?_⟩;clear d K aA aa ab;refine qA ?_;obtain⟨H,O⟩:=ν ((W2.drewN 1).setRow A (xQ css.flatten (first* (Ξa:Nat)) Ξd).toArray);have ao:Hid (qg (RgB R A) W2 H):=κ (by rw[<-O];exact((qg.refl _ _).drewN 1).row (Or.inr rfl) _);have I:Hid (H.heap[R]? =some (.cells (jV A room first (c::T).length ae af ac ad) (Ξf:Nat) (0,0))):=κ (by rw[<-O];exact qS (qr G.o.ring 1) _ G.o.ne);have aw:Hid (H.heap[A]? =some (.cells (css.set first Ξd).flatten.toArray (Ξe:Nat) (0,0))):=κ (by rw[<-O,<-JO css first _ G.o.cl Ξl.1 (by rw[G.o.len];exact aB)];exact jY (qr G.o.row 1) _);have ay:Hid (H.heap[xc]? =some (.cells c.toArray (Ξe:Nat) (0,0))):=κ (by rw[<-O];exact qS (qr ax.o 1) _ τ);have aq:Hid (H.heap[rc]? =some (.cells Ξd (Ξe:Nat) (0,0))):=κ (by rw[<-O];exact qS (qr ap.o 1) _ τ);rw[O];clear O ax ap
 go_wp2_with fail
 have aa: ∀x:qt H,x.w'.cell? ⟨R,0,none⟩=some (δ (some ⟨A,0,none⟩) room room):=λx=>x.cell (qn I.o) (qb I.o 0 rfl)
 have ab: ∀x:qt H,x.w'.cell? ⟨R,1,none⟩=some (ι first):=λx=>x.cell (qn I.o) (qb I.o 1 rfl)
 have aG:H.frozen? ⟨R,1,none⟩=false:=qd I.o 1;have aJ:H.cell? ⟨R,1,none⟩=some (ι first):=qb I.o 1 rfl;refine Qn H 14 15 [12,14] ?_
 refine Qs ?_
 (refine Ql ?_;intro K d)
 refine⟨qk ρ,d _ _ ?_⟩;clear d K
 refine Qq1 ?_
 (refine Qe ?_;intro K d)
 refine d _ _ ?_;clear d K aa ab;refine qA ?_;have az:((first:Int)+1)%(room:Int)=(((first+1)%room:Nat):Int):=by rw[Int.natCast_emod];rfl
 rw[az];obtain⟨N,U⟩:=ν ((H.drewN 1).setCell ⟨R,1,none⟩ (ι ((first+1)%room:Nat)));have aD:Hid (qg (RgB R A) W2 N):=κ (by rw[<-U];exact(ao.o.drewN 1).set (Or.inl rfl) _);have ak:Hid (N.heap[R]? =some (.cells (jV A room ((first+1)%room) (c::T).length ae af ac ad) (Ξf:Nat) (0,0))):=κ (by rw[<-U];exact qB (qp (qr I.o 1) 1 _) rfl);have aE:Hid (N.heap[A]? =some (.cells (css.set first Ξd).flatten.toArray (Ξe:Nat) (0,0))):=κ (by rw[<-U];exact qo (qr aw.o 1) _ _ (Ne.symm G.o.ne));have aF:Hid (N.heap[xc]? =some (.cells c.toArray (Ξe:Nat) (0,0))):=κ (by rw[<-U];exact qo (qr ay.o 1) _ _ (by show xc≠R;omega));have ar:Hid (N.heap[rc]? =some (.cells Ξd (Ξe:Nat) (0,0))):=κ (by rw[<-U];exact qo (qr aq.o 1) _ _ (by show rc≠R;omega));rw[U];clear U ao I aw ay aq aG aJ az;have aW:N.cell? ⟨R,2,none⟩=some (ι (c::T).length):=qb ak.o 2 rfl;have aL:N.frozen? ⟨R,2,none⟩=false:=qd ak.o 2;have aK:(((c::T).length:Nat):Int)-1=(T.length:Int):=by simp
 go_wp2_with (first | (refine vO rfl (Ξe:Nat) (.tmp 3) rfl xc (Ξe:Nat) c.toArray _ (qo aF.o _ _ (by show xc≠R;omega)) rfl Ξg rfl (by rw[Y];kernel_rfl) ?_) | (refine xW rfl (Ξe:Nat) (.tmp 2) (.tmp 49) rfl rc (Ξe:Nat) _ c.toArray (qo ar.o _ _ (by show rc≠R;omega)) rfl rfl (by rw[Y];kernel_rfl) (by rw[Y];rfl) (all_oneCell_toArray ai.2) ?_))
 have aH:R≠A:=G.o.ne;refine bodyPost_ret (v:= θ c.toArray) (results_cell_row Ξm _ _ rc (Ξe:Nat) c.toArray (0,0) _ rfl (jY (qo ar.o _ _ (by show rc≠R;omega)) _) Ξg rfl (by rw[Y];kernel_rfl)) rfl ?_;refine⟨rfl, ?_, ?_⟩
 ·exact G.o.took Ξl (qS (qB (qp ak.o 2 _) (by simp[jV])) _ τ) (qS (qo aE.o _ _ (Ne.symm aH)) _ τ)
 ·exact(((qg.of_more (av.o.trans an.o)).trans aD.o).set (Or.inl rfl) _).rowNew τ _):P:=h
section
open _root_.Go.Proofs.Tryz renaming func238->Ξb,ntmps238->Ξc,underlying253->Ξg,underlying325->Ξi,results238->Ξm
open _root_.Go.Proofs.YtlmllmonabafjaaGreatDoor renaming Ν13->Ξa,Γa->Ξd,Ν253->Ξe,Ν327->Ξf,Ν325->Ξh,LN->Ξj,zsI->Ξk,zokI->Ξl
theorem DK (w:World) (R A room first:Nat) (c:List Value) (T:List (List Value)) (ae af ac ad:Int) (css:List (List Value)) (h:qN 13 327 253 w R A room first (c::T) ae af ac ad css):
  Calls prog 238 #[γ R] w λe w'=>e= .returned (θ c.toArray)/\qN 13 327 253 w' R A room ((first+1)%room) T ae af ac ad (css.set first Γa)/\qg (RgB R A) w w':=Ψ2
end
end
section
open _root_.Go.Proofs.Tryz
theorem Ni {w:World} {R A room first:Nat} {q:List (List Value)} {H I d G:Int} {css:List (List Value)} (h:qN 13 327 253 w R A room first q H I d G css):
  Calls prog 113 #[γ R] w λe w'=>e= .returned (ι q.length)/\w'=w:=by
 have J:w.cell? ⟨R,2,none⟩=some (ι q.length):=qb h.ring 2 rfl;clear h
 go_enter func113,ntmps113
 go_wp2;go_ret;exact⟨rfl,rfl⟩
theorem Ψ3 {P:Prop} (h:P:=by
 have O:w.cell? ⟨R,0,none⟩=some (δ (some ⟨A,0,none⟩) room room):=qb h.ring 0 rfl;have U:w.cell? ⟨R,2,none⟩=some (ι q.length):=qb h.ring 2 rfl;have N:((q.length:Int)==(room:Int))=decide (q.length=room):=by by_cases e:q.length=room<;>simp[e];omega
 clear h
 go_enter Ξa,Ξb
 go_wp2;refine wp_region_quiet_lit ξ ξ ?_
 repeat (go_big_quiet_step (fail))
 refine wpQuiet_nil ?_;intro _ J;obtain⟨nq,rfl⟩:=J;go_wp2;go_ret;exact⟨rfl,nq,rfl⟩):P:=h
section
open _root_.Go.Proofs.Tryz renaming func256->Ξa,ntmps256->Ξb
theorem Mj {w:World} {R A room first:Nat} {q:List (List Value)} {H I d G:Int} {css:List (List Value)} (h:qN 13 327 253 w R A room first q H I d G css):
  Calls prog 256 #[γ R] w λe w'=>e= .returned (μ (decide (q.length=room)))/\ ∃k,w'=w.drewN k:=Ψ3
end
theorem mkI (n:Nat) (N:1<=n) (O:n<=8) (w:World):
  (Instr.makeSlice 325 (ι (n:Int)) (ι (n:Int))).run prog w= .ok (δ (some ⟨w.heap.size,0,none⟩) n n) (w.alloc (.cells (List.replicate n (Γa:List Value)).flatten.toArray 253)):=by
 obtain⟨J,hi,G,H,I⟩:=info_parts (P:=prog) (e:=253) (z:= Γa) (size:=13) (bytes:=120) ξ;have d:=run_make (P:=prog) w 325 253 J (Γa) underlying325 hi G .i64 .i64 n n τ τ (by rw[I];omega) τ;rw[d];simp only[Int.toNat_natCast,H];rw[Yq _ 13 n rfl ζ];rfl
theorem Pp (m:Int) (n:Nat) (I:m=n) (d:1<=n) (G:n<=8) (w:World):
  Calls prog 146 #[ι m] w λe w'=>e= .returned (.tuple #[γ (w.heap.size+1),ι 0])/\qN 13 327 253 w' (w.heap.size+1) w.heap.size n 0 [] 0 0 0 0 (List.replicate n (Γa:List Value))/\qa w w':=by
 subst I;have J:1<=(n:Int):=by omega
 go_enter func146,ntmps146
 have N:=mkI n d G;go_wp2;refine bodyPost_ret (v:= .tuple #[γ (w.heap.size+1),ι 0]) (by simp[results,results146,go_sem]) rfl ?_;refine⟨rfl, ?_,ρ⟩;exact⟨qC η,qs (qB (qj _ _) rfl) _,τ,η,λc H=>by rw[List.eq_of_mem_replicate H];exact zokI,⟨d,G⟩,τ,η,λi hi=>by simp at hi⟩
theorem Ψ4 {P:Prop} (h:P:=by
 have d:=κ h;have Y:=h.ofHead;have J:c.toArray.size=(Ξa:Nat):=by simpa using Y.1
 have af:(((c::T).length:Int)==0)=false:=by simp;omega
 clear h;have ae:R<w.heap.size:=qn d.o.ring;have ad:A<w.heap.size:=qn d.o.row;have ag:w.cell? ⟨R,2,none⟩=some (ι (c::T).length):=qb d.o.ring 2 rfl;have ah:w.cell? ⟨R,5,none⟩=some (ι O):=qb d.o.ring 5 rfl;have ac:w.frozen? ⟨R,5,none⟩=false:=qd d.o.ring 5
 go_enter Ξb,Ξc
 go_wp2_with (first | (((with_reducible refine(Ξd _ R A room first c T I _ G H css ((d.o.popped _).more (qa.alloc _ _))).mono ?_);rintro e w5 ⟨rfl,U,a5⟩;have ab:=κ U;have aa:Hid (qg (RgB R A) w w5):=κ ((((qg.refl _ _).set (Or.inl rfl) _).alc _).trans a5);have N:Hid (w5.heap[w.heap.size]? =some (.cells Ξe (Ξf:Nat) (0,0))):=κ (a5.blk (qC η) (by rintro(e | e)<;>omega));clear U a5)) | (refine xW rfl (Ξf:Nat) (.tmp 2) (.tmp 21) rfl w.heap.size (Ξf:Nat) _ c.toArray N.o rfl rfl (by rw[J];kernel_rfl) (by rw[J];rfl) (all_oneCell_toArray Y.2) ?_))
 refine bodyPost_ret (v:= .tuple #[θ c.toArray,true]) (yo Ξg _ _ w.heap.size (Ξf:Nat) c.toArray _ _ rfl rfl (jY N.o _) Ξh rfl (by rw[J];kernel_rfl)) rfl ?_;exact⟨rfl,⟨_,ab.o.away (xb _ _ _) (λe:R=w.heap.size=>by omega) (λe:A=w.heap.size=>by omega)⟩,aa.o.rowNew (Nat.le_refl _) _⟩):P:=h
section
open _root_.Go.Proofs.Tryz renaming func197->Ξb,ntmps197->Ξc,results197->Ξg,underlying253->Ξh
open _root_.Go.Proofs.YtlmllmonabafjaaGreatDoor renaming Ν13->Ξa,DK->Ξd,Γa->Ξe,Ν253->Ξf
theorem Nb (w:World) (R A room first:Nat) (c:List Value) (T:List (List Value)) (I O G H:Int) (css:List (List Value)) (h:qN 13 327 253 w R A room first (c::T) I O G H css):
  Calls prog 197 #[γ R] w λe w'=>e= .returned (.tuple #[θ c.toArray,true])/\(∃co',qN 13 327 253 w' R A room ((first+1)%room) T I co' G H (css.set first Γa))/\qg (RgB R A) w w':=Ψ4
end
end
section
open _root_.Go.Proofs.Tryz
theorem Ψ5 {P:Prop} (h:P:=by
 have U:=κ h;have bh:R<w.heap.size:=qn h.ring;have bg:A<w.heap.size:=qn h.row;have bp:(((w.alloc (.cells x.toArray (Ξa:Nat))).alloc (.cells Ξb (Ξa:Nat))).alloc (.cells Ξb (Ξa:Nat))).cell? ⟨R,3,none⟩=some (μ false):=qb (qs (qs (qs h.ring _) _) _) 3 rfl;have au:=κ aP;clear h aP
 go_enter Ξc,Ξd
 go_upto_if 16 with (first | (((with_reducible refine(Ξe (U.o.more (((qa.refl w).al _).al _ |>.al _))).mono ?_);rintro e an ⟨rfl,bn,ak⟩;rw[au.o];have ag:Hid (qa w an):=κ (by rw[ak];exact(((qa.refl w).al _).al _ |>.al _).dr _);have az:Hid (an.heap[w.heap.size]? =some (.cells x.toArray (Ξa:Nat) (0,0))):=κ (by rw[ak];exact qr (qs (qs (qj _ _) _) _) _);have aw:Hid (an.heap[w.heap.size+1]? =some (.cells Ξb (Ξa:Nat) (0,0))):=κ (by rw[ak];exact qr (qs (qC η) _) _);have ax:Hid (an.heap[w.heap.size+2]? =some (.cells Ξb (Ξa:Nat) (0,0))):=κ (by rw[ak];exact qr (qC η) _);clear ak)))
 go_cut [] from 17 to 67 (λao=> ∃(G:List Value) (f:Nat) (q:List (List Value)) (H:Int) (cs:List (List Value)),qN (Ξf:Nat) (Ξg:Nat) (Ξa:Nat) ao R A room f q aa aj H ai cs/\qg (RgB R A) w ao/\ao.heap[w.heap.size]? =some (.cells x.toArray (Ξa:Nat) (0,0))/\ao.heap[w.heap.size+1]? =some (.cells Ξb (Ξa:Nat) (0,0))/\ao.heap[w.heap.size+2]? =some (.cells G.toArray (Ξa:Nat) (0,0))/\q.length<room/\(G.length=(Ξf:Nat)/\ ∀u∈G,u.oneCell'=true)/\Wt Ξb first room O css Y ab G f q H cs)
 case first=>
  cases ab with
  | false=>
   have aD:O.length<room:=by have:=U.o.fits;have:=of_decide_eq_false au.o;omega
   go_wp2;go_meet;exact⟨Ξb,first,O,Y,css,U.o.more ag.o,qg.of_more ag.o,az.o,aw.o,ax.o,aD,Ξh,rfl,rfl,rfl,rfl,rfl⟩
  | true=>
   cases O with
   | nil=>exact absurd (of_decide_eq_true au.o) (by have:=U.o.pos;simp;omega)
   | cons c T=>
    have aC:=U.o.ofHead;have N:c.toArray.size=(Ξf:Nat):=by simpa using aC.1
    have aD:T.length<room:=by have:=of_decide_eq_true au.o;simp at this;omega
    go_wp2_with (first | (((with_reducible refine(Ξi an R A room first c T aa aj Y ai css (U.o.more ag.o)).mono ?_);rintro e w5 ⟨rfl,ac,a5⟩;have aK:=κ ac;have aF:=κ a5;have aL:=κ (a5.blk az.o (by rintro(e | e)<;>omega));have aH:=κ (a5.blk aw.o (by rintro(e | e)<;>omega));have ay:=κ (a5.blk ax.o (by rintro(e | e)<;>omega));clear ac a5)) | (refine yL (.store (Ξa:Nat) (.tmp 7) (.tmp 18)) rfl ?_;refine xW rfl (Ξa:Nat) (.tmp 7) (.tmp 18) rfl (w.heap.size+2) (Ξa:Nat) _ c.toArray ay.o rfl rfl (by rw[N];kernel_rfl) (by rw[N];rfl) (all_oneCell_toArray aC.2) ?_;obtain⟨w6,aT⟩: ∃w6,w5.setRow (w.heap.size+2) c.toArray=w6:=⟨_,rfl⟩;have ar:=κ (aK.o.away (xb w5 (w.heap.size+2) c.toArray) (λe:R=w.heap.size+2=>by omega) (λe:A=w.heap.size+2=>by omega));have ap:Hid (qg (RgB R A) w (w5.setRow (w.heap.size+2) c.toArray)):=κ (((qg.of_more ag.o).trans aF.o).rowNew τ _);have aN:Hid ((w5.setRow (w.heap.size+2) c.toArray).heap[w.heap.size]? =_):=κ (qS aL.o _ τ);have ae:Hid ((w5.setRow (w.heap.size+2) c.toArray).heap[w.heap.size+1]? =_):=κ (qS aH.o _ τ);have aq:Hid ((w5.setRow (w.heap.size+2) c.toArray).heap[w.heap.size+2]? =_):=κ (jY ay.o c.toArray);rw[aT] at ar ap aN ae aq ⊢;clear aT aK aF aL aH ay;have br:w6.cell? ⟨R,6,none⟩=some (ι Y):=qb ar.o.ring 6 rfl;have bf:w6.frozen? ⟨R,6,none⟩=false:=qd ar.o.ring 6))
    go_meet;exact⟨c,_,T,_,css.set first Ξb,ar.o.dropped _,ap.o.set (Or.inl rfl) _,qo aN.o _ _ (by show w.heap.size≠R;omega),qo ae.o _ _ (by show w.heap.size+1≠R;omega),qo aq.o _ _ (by show w.heap.size+2≠R;omega),aD,aC,rfl,rfl,rfl⟩
 case rest=>
 obtain⟨G,f,q,H,cs,ac,a5,aE,aA,c5,bb,aR,aS⟩:=hcut;have N:G.toArray.size=(Ξf:Nat):=by simpa using aR.1
 obtain⟨ah,aB⟩:=ν (wc);rw[aB] at ac a5 aE aA c5;rw[aB];have d:=κ ac;have aG:=κ a5;have aM:=κ aE;have aI:=κ aA;have aJ:=κ c5;have aU:=κ aS;clear ac a5 aE aA c5 aS aB ag az aw ax
 go_upto_region 8 with fail
 have aV: ∀x:qt ah,x.w'.cell? ⟨R,0,none⟩=some (δ (some ⟨A,0,none⟩) room room):=λx=>x.cell (qn d.o.ring) (qb d.o.ring 0 rfl)
 have aW: ∀x:qt ah,x.w'.cell? ⟨R,1,none⟩=some (ι f):=λx=>x.cell (qn d.o.ring) (qb d.o.ring 1 rfl)
 have aX: ∀x:qt ah,x.w'.cell? ⟨R,2,none⟩=some (ι q.length):=λx=>x.cell (qn d.o.ring) (qb d.o.ring 2 rfl)
 have bk:((f:Int)+(q.length:Int))%(room:Int)=(((f+q.length)%room:Nat):Int):=by rw[Int.natCast_emod];rfl
 have ba:(f+q.length)%room<room:=Nat.mod_lt _ τ;have hi:(((f+q.length)%room:Nat):Int)<(room:Int):=by omega
 have bl:=d.o.pos;have bi:=d.o.fst;have bj:(f:Int)<=8:=by omega
 have bm:(q.length:Int)<=8:=by omega
 generalize aZ:(f+q.length)%room=I at *;refine Qn ah 21 22 [21] ?_
 refine Ny ?_
 refine jh rfl rfl (qk ρ) (Ξa:Nat) (.tmp 3) rfl w.heap.size 0 rfl x _ (λw' bc=>by obtain⟨y,rfl⟩:=bc;exact xy (qc y.h aM.o)) Ξj rfl (by rw[ad.1];kernel_rfl) ?_;intro K am;go_simp;refine am _ ?_;clear am K
 refine Qq1 ?_
 refine zY rfl rfl ζ ?_;intro K am;refine zF (Ξa:Nat) (.tmp 48) (.tmp 47) rfl A (I* (Ξf:Nat)) (Ξa:Nat) cs.flatten.toArray x rfl rfl (qr d.o.row 1) (by rw[d.o.size,ad.1];have:=Nat.mul_le_mul_right (Ξf:Nat) (show I+1<=room by omega);omega) (by rw[ad.1];kernel_rfl) ad.2 ?_;refine⟨trivial, ?_⟩;go_simp;refine am _ _ ?_;clear am K aV aW aX;refine qA ?_;obtain⟨W6,J⟩:=ν ((ah.drewN 1).setRow A (xQ cs.flatten (I* (Ξf:Nat)) x).toArray);have ap:Hid (qg (RgB R A) w W6):=κ (by rw[<-J];exact(aG.o.drewN 1).row (Or.inr rfl) _);have af:Hid (W6.heap[R]? =some (.cells (jV A room f q.length aa aj H ai) (Ξg:Nat) (0,0))):=κ (by rw[<-J];exact qS (qr d.o.ring 1) _ d.o.ne);have aY:Hid (W6.heap[A]? =some (.cells (cs.set I x).flatten.toArray (Ξa:Nat) (0,0))):=κ (by rw[<-J,<-JO cs I _ d.o.cl ad.1 (by rw[d.o.len];exact ba)];exact jY (qr d.o.row 1) _);have ae:Hid (W6.heap[w.heap.size+1]? =some (.cells Ξb (Ξa:Nat) (0,0))):=κ (by rw[<-J];exact qS (qr aI.o 1) _ τ);have aq:Hid (W6.heap[w.heap.size+2]? =some (.cells G.toArray (Ξa:Nat) (0,0))):=κ (by rw[<-J];exact qS (qr aJ.o 1) _ τ);rw[J];clear J aG aM aI aJ;have aO:w.heap.size+2≠R:=by omega
 have av:w.heap.size+1≠R:=by omega
 have bo:W6.cell? ⟨R,2,none⟩=some (ι q.length):=qb af.o 2 rfl;have bd:W6.frozen? ⟨R,2,none⟩=false:=qd af.o 2;have bq:W6.cell? ⟨R,4,none⟩=some (ι aa):=qb af.o 4 rfl;have be:W6.frozen? ⟨R,4,none⟩=false:=qd af.o 4
 go_wp2_with (first | (refine yL (.load (Ξa:Nat) (.tmp 7)) rfl ?_;refine vO rfl (Ξa:Nat) (.tmp 7) rfl (w.heap.size+2) (Ξa:Nat) G.toArray _ (qo (qo aq.o ⟨R,2,none⟩ _ aO) ⟨R,4,none⟩ _ aO) rfl Ξj rfl (by rw[N];kernel_rfl) ?_) | (refine yL (.store (Ξa:Nat) (.tmp 4) (.tmp 65)) rfl ?_;refine xW rfl (Ξa:Nat) (.tmp 4) (.tmp 65) rfl (w.heap.size+1) (Ξa:Nat) _ G.toArray (qo (qo ae.o ⟨R,2,none⟩ _ av) ⟨R,4,none⟩ _ av) rfl rfl (by rw[N];kernel_rfl) (by rw[N];rfl) (all_oneCell_toArray aR.2) ?_))
 have aQ:R≠A:=d.o.ne;refine bodyPost_ret (v:= .tuple #[θ G.toArray,ab,ι 0]) (KW Ξk _ _ (w.heap.size+1) (Ξa:Nat) G.toArray _ _ _ rfl rfl rfl (jY (qo (qo ae.o ⟨R,2,none⟩ _ av) ⟨R,4,none⟩ _ av) _) Ξj rfl (by rw[N];kernel_rfl)) rfl ?_;subst aZ;refine⟨_,_,_,_,_,rfl,⟨wrap64 (aa+1),d.o.put bb ad ?_ ?_⟩,((ap.o.set (Or.inl rfl) _).set (Or.inl rfl) _).rowNew τ _,aU.o⟩
 ·exact qS (qB (qp (qp af.o 2 _) 4 _) rfl) _ τ
 ·exact qS (qo (qo aY.o _ _ (Ne.symm aQ)) _ _ (Ne.symm aQ)) _ τ):P:=h
section
open _root_.Go.Proofs.Tryz renaming func196->Ξc,ntmps196->Ξd,underlying253->Ξj,results196->Ξk
open _root_.Go.Proofs.YtlmllmonabafjaaGreatDoor renaming Ν253->Ξa,Γa->Ξb,Mj->Ξe,Ν13->Ξf,Ν327->Ξg,zokI->Ξh,DK->Ξi
theorem ZG (w:World) (R A room first:Nat) (O:List (List Value)) (aa aj Y ai:Int) (css:List (List Value)) (h:qN 13 327 253 w R A room first O aa aj Y ai css) (x:List Value) (ad:x.length=13/\ ∀u∈x,u.oneCell'=true) (ab:Bool) (aP:decide (O.length=room)=ab):
  Calls prog 196 #[γ R,θ x.toArray] w λe w'=> ∃(G:List Value) (f:Nat) (q:List (List Value)) (H:Int) (cs:List (List Value)),e= .returned (.tuple #[θ G.toArray,ab,ι 0])/\(∃ci',qN 13 327 253 w' R A room f (q++[x]) ci' aj H ai (cs.set ((f+q.length)%room) x))/\qg (RgB R A) w w'/\Wt Γa first room O css Y ab G f q H cs:=Ψ5
end
theorem UF (w:World) (R A room first:Nat) (q:List (List Value)) (I H d G:Int) (css:List (List Value)) (h:qN 13 327 253 w R A room first q I H d G css) (ad:q.length<room) (x:List Value) (ac:x.length=13/\ ∀u∈x,u.oneCell'=true):
  Calls prog 196 #[γ R,θ x.toArray] w λe w'=>e= .returned (.tuple #[Γa,μ false,ι 0])/\(∃ci',qN 13 327 253 w' R A room first (q++[x]) ci' H d G (css.set ((first+q.length)%room) x))/\qg (RgB R A) w w':=
 (ZG w R A room first q I H d G css h x ac false (decide_eq_false τ)).mono λe w' ⟨_,_,_,_,_,aa,ab,a,J,N,O,U,Y⟩=>by
  subst J N O U Y;exact⟨aa,ab,a⟩
theorem UG (w:World) (R A room first:Nat) (c:List Value) (T:List (List Value)) (O I N G:Int) (css:List (List Value)) (h:qN 13 327 253 w R A room first (c::T) O I N G css) (ab:(c::T).length=room) (x:List Value) (ad:x.length=13/\ ∀u∈x,u.oneCell'=true):
  Calls prog 196 #[γ R,θ x.toArray] w λe w'=>e= .returned (.tuple #[θ c.toArray,true,ι 0])/\(∃H d,qN 13 327 253 w' R A room ((first+1)%room) (T++[x]) H I d G ((css.set first Γa).set (((first+1)%room+T.length)%room) x))/\qg (RgB R A) w w':=
 (ZG w R A room first (c::T) O I N G css h x ad true (decide_eq_true ab)).mono λe w' ⟨ae,f,q,d,cs,aa,⟨H,ac⟩,a,J,U,Y⟩=>by
  injection J with J h4
  subst J U Y h4;exact⟨aa,⟨H,d,ac⟩,a⟩
end
section
open _root_.Go.Proofs.Tryz
theorem Ag (c:List Value) (h:c.length=13): ∃a0 a1 a2 a3 a4 a5 a6 a7 a8 a9 a10 a11 a12,c=[a0,a1,a2,a3,a4,a5,a6,a7,a8,a9,a10,a11,a12]:=by
 match c,h with
 | [a0,a1,a2,a3,a4,a5,a6,a7,a8,a9,a10,a11,a12],_=>exact⟨a0,a1,a2,a3,a4,a5,a6,a7,a8,a9,a10,a11,a12,rfl⟩
theorem zI {S:Nat->Prop} {w w':World} {base e n m:Nat} {v:Value} {xs:List Value} (h:w.ownsRow base e n v m xs) (a:qg S w w') (H: ∀b,base<=b-> ¬S b):w'.ownsRow base e n v m xs:=by
 obtain⟨d,G⟩:=h;refine⟨d, ?_⟩;rcases G with h | ⟨b,cap,cur,e1,hb,hg,rest⟩
 ·exact Or.inl h
 ·exact Or.inr ⟨b,cap,cur,e1,hb,a.blk hg (H b hb),rest⟩
theorem vV {w:World} {base e size n b:Nat} {v:Value} {xs:List Value} (h:w.ownsRow base e size v n xs) (d:v.ownBlock=some b):base<=b:=by
 rcases h.2 with ⟨rfl,_⟩ | ⟨g,cap,cur,rfl,G,_⟩
 ·cases d
 ·obtain rfl:g=b:=by injection d
  exact G
theorem zA {w:World} {base e size n:Nat} {v:Value} {xs:List Value} (h:w.ownsRow base e size v n xs): ∃oa cap,v= δ oa n cap:=by
 rcases h.2 with ⟨rfl,d⟩ | ⟨g,cap,cur,rfl,_⟩
 ·exact⟨none,0,by rw[d]⟩
 ·exact⟨_,cap,rfl⟩
theorem IN (w:World) (R A room first:Nat) (q:List (List Value)) (J N H I:Int) (css:List (List Value)) (h:qN 13 327 253 w R A room first q J N H I css):
  Calls prog 180 #[γ R] w λe w'=> ∃v,e= .returned v/\w'.ownsRow w.heap.size 253 13 v q.length q.flatten/\(∃first' cg' css',qN 13 327 253 w' R A room first' [] J N H cg' css')/\qg (RgB R A) w w':=by
 obtain⟨aO,aP,aQ,aR,aS⟩:=info_parts (P:=prog) (e:=253) (z:= Γa) (size:=13) (bytes:=120) ξ;have aA:=κ h;have aW:R<w.heap.size:=qn h.ring;have aV:A<w.heap.size:=qn h.row;have bc:w.cell? ⟨R,2,none⟩=some (ι q.length):=qb h.ring 2 rfl;have ba:(q.length:Int)<=8:=by have:=h.fits;have:=h.pos.2;omega
 have aG:=κ h.qall;clear h
 go_enter func180,ntmps180
 go_wp2
 go_loopw [3,8] (λu am wr=> ∃(j f:Nat) (cs:List (List Value)),j<=q.length/\am= ι j/\(∃ax aw aq,u= δ ax aw aq)/\wr.ownsRow w.heap.size 253 13 u j (q.take j).flatten/\qN 13 327 253 wr R A room f (q.drop j) J N H I cs/\qg (RgB R A) w wr) (λ_ am _=>q.length-(intOf am).toNat)
 case atStart=>exact⟨0,first,css,τ,rfl,⟨_,_,_,rfl⟩,World.ownsRow_nil w _ _ _,aA.o,qg.refl _ _⟩
 case round=>
  obtain⟨j,f,cs,aY,rfl,⟨ax,aw,aq,rfl⟩,d,av,au⟩:=hrel;have an:=κ d;have G:=κ av;have ah:=κ au;clear d av au;by_cases hlt:j<q.length
  ·have aj:q.drop j=q[j]::q.drop (j+1):=List.drop_eq_getElem_cons hlt;have al:q.take (j+1)=q.take j++[q[j]]:=by rw[List.take_add_one,List.getElem?_eq_getElem hlt];rfl
   have ag:=aG.o q[j] (List.getElem_mem hlt);have aZ:(j:Int)<(q.length:Int):=by omega
   obtain⟨c,aI⟩: ∃c,Hid (c=q[j]):=⟨_,κ rfl⟩;rw[<-aI.o] at aj al ag;have aD:=κ (aj▸G.o);have aE:=κ al;have aX:c.toArray.size=13:=by simpa using ag.1
   clear aj al G;obtain⟨a0,U,ac,a3,a4,a5,ad,ae,af,a9,Y,aa,ab,rfl⟩:=Ag c ag.1
   go_wp2_with (first | (go_at_call 238;(go_call DK wr R A room f [a0,U,ac,a3,a4,a5,ad,ae,af,a9,Y,aa,ab] (q.drop (j+1)) J N H I cs aD.o as e w5 ⟨rfl,ar,a5⟩;have aB:=κ ar;have ay:=κ a5;have O:=κ (zI an.o a5 (λb ai e=>by rcases e with e | e<;>omega));have aH:Hid (w.heap.size<=w5.heap.size):=κ (Nat.le_trans ah.o.size a5.size);clear ar a5)) | (at_builtin;refine wpList_append_own_at _ rfl (.tmp 10) (.tmp 13) 325 rfl w.heap.size 253 aO (Γa) 13 120 underlying325 aP aQ aR aS rfl ζ _ j (q.take j).flatten rfl (zI O.o (qg.of_more (qa.alloc _ _)) (λb _ e=>e)) ⟨w5.heap.size,0,none⟩ 1 1 [a0,U,ac,a3,a4,a5,ad,ae,af,a9,Y,aa,ab] rfl rfl (λi u aL=>by have:=xy (cs:=[a0,U,ac,a3,a4,a5,ad,ae,af,a9,Y,aa,ab]) (t:=253) (qj w5 (.cells #[a0,U,ac,a3,a4,a5,ad,ae,af,a9,Y,aa,ab] 253)) i u aL;rw[Addr.add_mid];exact this) ag.2 (by unfold maxLen;omega) τ (by have:=aH.o;simp;omega) ?_;intro v6 w6 d ak aJ aM;have aF:=κ d;have az:Hid (qg (RgB R A) w w6):=κ (((ah.o.trans ay.o).alc _).grown ak (λb ai=>vV O.o ai));have aC:Hid (qN 13 327 253 w6 R A room ((f+1)%room) (q.drop (j+1)) J N H I (cs.set f Γa)):=κ ((aB.o.more (qa.alloc _ _)).away (qg.of_grown ak) (λe=>by have:=vV O.o e;omega) (λe=>by have:=vV O.o e;omega));obtain⟨bb,aT,rfl⟩:=zA d;clear d ak aJ aM))
   go_roundw
   case rel=>exact⟨j+1,(f+1)%room,_,τ,by go_num,⟨_,_,_,rfl⟩,by rw[aE.o,List.flatten_append];simpa using aF.o,aC.o,az.o⟩
   case measure=>simp[intOf];omega
  ·obtain rfl:j=q.length:=by omega
   have bd:wr.cell? ⟨R,7,none⟩=some (ι I):=qb G.o.ring 7 rfl;have aU:wr.frozen? ⟨R,7,none⟩=false:=qd G.o.ring 7;go_wp2;go_ret;have aN:q.drop q.length=[]:=by simp
   have aK:q.take q.length=q:=by simp
   have ap:=G.o;have ao:=an.o;rw[aN] at ap;rw[aK] at ao;exact⟨_,rfl,zI ao ((qg.refl (λb=>b=R) _).set rfl _) (λb ai e=>by omega),⟨_,_,_,ap.drained _⟩,ah.o.set (Or.inl rfl) _⟩
end
section
open _root_.Go.Proofs.Tryz
def idV (c:List Value):Value:=match c with | .int .i64 n::_=> .int .i64 n | _=> .int .i64 0
def idN (c:List Value):Int:=match c with | .int .i64 n::_=>n | _=>0
theorem YB {n:Nat} {w:World} {base e:Nat} {v:Value} {q:List (List Value)} (h:w.ownsRow base e n v q.length q.flatten) (I: ∀c∈q,c.length=n):
  ∃oa cap,v= δ oa q.length cap/\ ∀j,j<q.length-> ∃b,oa=some ⟨b,0,none⟩/\b<w.heap.size/\ ∀w',qa w w'->w'.rangeAt b (j* n) (q.getD j []):=by
 obtain⟨Y,O⟩:=h;rcases O with ⟨rfl,N⟩ | ⟨g,cap,cur,rfl,aa,H,af,ac,ad,U⟩
 ·exact⟨none,0,by rw[N],λj d=>by omega⟩
 ·refine⟨_,cap,rfl,λj d=>⟨g,rfl,lt_of_block H,λw' m i u J=> ?_⟩⟩;have ab:(q.getD j []).length=n:=by
   rw[List.getD_eq_getElem?_getD,List.getElem?_eq_getElem d];exact I _ (List.getElem_mem d)
  have hi:i<n:=by have:=(List.getElem?_eq_some_iff.1 J).1;omega
  have ae:j* n+n<=q.length* n:=by
   have:(j+1)* n<=q.length* n:=Nat.mul_le_mul_right n d;rw[Nat.add_mul,Nat.one_mul] at this;exact this
  have G:=Wr q j i I d hi;rw[<-U,List.getElem?_take,if_pos τ] at G;rw[cell_of_row w' g _ cur e (0,0) (qc m H),<-J,<-G];simp
theorem Fl (i:Int) (c:List Value) (d:c.length=12) (w:World):Calls prog 181 #[θ (ι i::c).toArray] w λe w'=>e= .returned (ι i)/\qa w w':=by
 obtain⟨a0,G,N,a3,a4,a5,O,U,Y,a9,H,I,J,h⟩:=Ag (ι i::c) (by simp[d]);obtain⟨rfl,rfl⟩:a0= ι i/\c=[G,N,a3,a4,a5,O,U,Y,a9,H,I,J]:=by
  injection h with h1 h2
  exact⟨h1.symm,h2⟩
 clear h d
 go_enter func181,ntmps181
 go_wp2;go_ret;exact⟨rfl,ρ⟩
theorem Ψ6 {P:Prop} (h:P:=by
 obtain⟨aK,hi,aH,aI,aJ⟩:=info_parts (P:=prog) (e:=3) (z:= ι 0) (size:=1) (bytes:=8) ξ;obtain⟨aQ,cap,rfl,aq⟩:=YB row (λc d=>by obtain⟨i,r,rfl,I⟩:=aa c d;simp[I]);have az:=κ aq;have ay:=κ aa;have aB:=κ ai;clear row aq aa ai
 go_enter Ξa,Ξb
 go_wp2
 go_loopw [5,10] (λu ae wr=> ∃j:Nat,j<=q.length/\ae= ι j/\(∃av au ah,u= δ av au ah)/\wr.ownsRow w.heap.size 3 1 u ((q.take j).map idN).length (((q.take j).map idN).map (Value.int .i64))/\qa w wr) (λ_ ae _=>q.length-(intOf ae).toNat)
 case atStart=>exact⟨0,τ,rfl,⟨_,_,_,rfl⟩,World.ownsRow_nil w _ _ _,qa.refl _⟩
 case round=>
  obtain⟨j,aM,rfl,⟨av,au,ah,rfl⟩,ap,ao⟩:=hrel;have J:=κ ap;have H:=κ ao;clear ap ao;by_cases hlt:j<q.length
  ·have aO:(j:Int)<(q.length:Int):=by omega
   have ac:(q.take (j+1)).map idN=(q.take j).map idN++[idN q[j]]:=by rw[List.take_add_one,List.getElem?_eq_getElem hlt,List.map_append];rfl
   obtain⟨b,rfl,aL,ak⟩:=az.o j hlt;have an:q.getD j []=q[j]:=by rw[List.getD_eq_getElem?_getD,List.getElem?_eq_getElem hlt];rfl
   have G:=κ (ak wr H.o);rw[an] at G;obtain⟨id,r,ab,I⟩:=ay.o q[j] (List.getElem_mem hlt);rw[ab] at ac G;have aA:Hid ((q.take (j+1)).map idN=(q.take j).map idN++[id]):=κ ac;have ad:=aB.o q[j] (List.getElem_mem hlt);rw[ab] at ad;obtain⟨c,d⟩: ∃c,c= ι id::r:=⟨_,rfl⟩;have O:=Ξc id r I;rw[<-d] at G ad O;have aj:c.length=(Ξd:Nat):=by rw[d];simp[I]
   have U:c.toArray.size=(Ξd:Nat):=by simpa using aj
   have ax:=κ O;clear d O;clear an ak ab ac;have c1:(((q.take j).map idN).length+[id].length)* 8<=140737488355328:=(by simp;omega)
   go_wp2_with (first | (refine yL (.load (Ξe:Nat) (.tmp 12)) rfl ?_;refine wpList_load_mid rfl (Ξe:Nat) (.tmp 12) rfl b (j* (Ξd:Nat)) rfl c _ G.o Ξf rfl (by rw[aj];kernel_rfl) ?_) | (refine yL (.store (Ξe:Nat) (.tmp 7) (.tmp 13)) rfl ?_;refine xW rfl (Ξe:Nat) (.tmp 7) (.tmp 13) rfl wr.heap.size (Ξe:Nat) _ c.toArray (qj wr _) rfl rfl (by rw[U];kernel_rfl) (by rw[U];rfl) (all_oneCell_toArray ad) ?_;have aw:=κ (jY (qj wr (.cells Ξg (Ξe:Nat))) c.toArray)) | (refine yL (.load (Ξe:Nat) (.tmp 7)) rfl ?_;refine vO rfl (Ξe:Nat) (.tmp 7) rfl wr.heap.size (Ξe:Nat) c.toArray _ aw.o rfl Ξf rfl (by rw[U];kernel_rfl) ?_) | (refine(ax.o _).mono ?_;rintro e w1 ⟨rfl,ar⟩;have N:Hid (qa wr w1):=κ (((xb _ _ _).to_more (qa.alloc _ _) (λk e=>by rw[e];exact Nat.le_refl _)).trans ar);clear ar) | (at_builtin;refine xr _ rfl (.tmp 14) (.tmp 18) 107 rfl w.heap.size 3 aK (ι 0) 8 underlying107 hi aH aI aJ rfl _ .i64 ((q.take j).map idN) rfl (zI J.o (S:=λ_=>False) ((qg.of_more N.o).alc _) (λ_ _ h=>h)) _ [id] rfl (SlI.lit .i64 w1 [id] 3 _ 1 _ η rfl rfl η) c1 ζ (Nat.le_trans (H.o.trans N.o).size (qa.alloc _ _).size) ?_;intro v2 w2 Y am;have aD:=κ Y;have aC:Hid (qa w w2):=κ ((qg.of_more (S:=λ_=>False) ((H.o.trans N.o).al _)).grown am (λk aE=>vV J.o aE) |>.to_more (qa.refl _) (λk e=>e.elim));obtain⟨o2,c2,rfl⟩:=zA Y;clear Y am))
   go_roundw
   case rel=>exact⟨j+1,τ,by go_num,⟨_,_,_,rfl⟩,by rw[aA.o];have ag:=aD.o;have aF:((q.take j).map idN++[id]).length=j+1:=(by simp;omega);(rw[aF] at ag ⊢;exact ag),aC.o⟩
   case measure=>simp[intOf];omega
  ·obtain rfl:j=q.length:=by omega
   have aP: ¬(q.length:Int)<(q.length:Int):=by omega
   go_wp2;go_ret;have aG:q.take q.length=q:=by simp
   have af:=J.o;rw[aG] at af;exact⟨⟨_,rfl,by simpa using af⟩,H.o⟩):P:=h
section
open _root_.Go.Proofs.Tryz renaming func179->Ξa,ntmps179->Ξb,underlying253->Ξf
open _root_.Go.Proofs.YtlmllmonabafjaaGreatDoor renaming Fl->Ξc,Ν13->Ξd,Ν253->Ξe,Γa->Ξg
theorem Nl (w:World) (v:Value) (q:List (List Value)) (base:Nat) (row:w.ownsRow base 253 13 v q.length q.flatten) (aa: ∀c∈q,∃i r,c= ι i::r/\r.length=12) (ai: ∀c∈q,∀u∈c,u.oneCell'=true) (aN:q.length<=8):
  Calls prog 179 #[v,.func (.func 181) #[] #[]] w λe w'=>(∃v',e= .returned v'/\w'.ownsRow w.heap.size 3 1 v' (q.map idN).length ((q.map idN).map (Value.int .i64)))/\qa w w':=Ψ6
end
end
section
open _root_.Go.Proofs.Tryz
theorem LM (w:World):(zeroValue 56).run prog w= .ok (Γs) w:=by kernel_rfl
theorem zsO:(Builtin.zeroCells (Γs:Value).cells 1).toList=Γs:=by kernel_rfl
theorem zokO:(Γs:List Value).length=2/\ ∀u∈(Γs:List Value),u.oneCell'=true:=⟨rfl,by simp[Value.oneCell']⟩
section
open _root_.Go.Proofs.Tryz renaming func232->Ξb,ntmps232->Ξc,underlying56->Ξg,underlying53->Ξi,results232->Ξm
open _root_.Go.Proofs.YtlmllmonabafjaaGreatDoor renaming Ν2->Ξa,Γs->Ξd,Ν56->Ξe,Ν332->Ξf,Ν53->Ξh,LM->Ξj,zsO->Ξk,zokO->Ξl
theorem DJ (w:World) (R A room first:Nat) (c:List Value) (T:List (List Value)) (ae af ac ad:Int) (css:List (List Value)) (h:qN 2 332 56 w R A room first (c::T) ae af ac ad css):
  Calls prog 232 #[γ R] w λe w'=>e= .returned (θ c.toArray)/\qN 2 332 56 w' R A room ((first+1)%room) T ae af ac ad (css.set first Γs)/\qg (RgB R A) w w':=Ψ2
end
end
section
open _root_.Go.Proofs.Tryz
theorem Nh {w:World} {R A room first:Nat} {q:List (List Value)} {H I d G:Int} {css:List (List Value)} (h:qN 2 332 56 w R A room first q H I d G css):
  Calls prog 115 #[γ R] w λe w'=>e= .returned (ι q.length)/\w'=w:=by
 have J:w.cell? ⟨R,2,none⟩=some (ι q.length):=qb h.ring 2 rfl;clear h
 go_enter func115,ntmps115
 go_wp2;go_ret;exact⟨rfl,rfl⟩
section
open _root_.Go.Proofs.Tryz renaming func258->Ξa,ntmps258->Ξb
theorem Mi {w:World} {R A room first:Nat} {q:List (List Value)} {H I d G:Int} {css:List (List Value)} (h:qN 2 332 56 w R A room first q H I d G css):
  Calls prog 258 #[γ R] w λe w'=>e= .returned (μ (decide (q.length=room)))/\ ∃k,w'=w.drewN k:=Ψ3
end
theorem mkO (n:Nat) (N:1<=n) (O:n<=8) (w:World):
  (Instr.makeSlice 53 (ι (n:Int)) (ι (n:Int))).run prog w= .ok (δ (some ⟨w.heap.size,0,none⟩) n n) (w.alloc (.cells (List.replicate n (Γs:List Value)).flatten.toArray 56)):=by
 obtain⟨J,hi,G,H,I⟩:=info_parts (P:=prog) (e:=56) (z:= Γs) (size:=2) (bytes:=32) ξ;have d:=run_make (P:=prog) w 53 56 J (Γs) underlying53 hi G .i64 .i64 n n τ τ (by rw[I];omega) τ;rw[d];simp only[Int.toNat_natCast,H];rw[Yq _ 2 n rfl ζ];rfl
theorem Po (m:Int) (n:Nat) (I:m=n) (d:1<=n) (G:n<=8) (w:World):
  Calls prog 148 #[ι m] w λe w'=>e= .returned (.tuple #[γ (w.heap.size+1),ι 0])/\qN 2 332 56 w' (w.heap.size+1) w.heap.size n 0 [] 0 0 0 0 (List.replicate n (Γs:List Value))/\qa w w':=by
 subst I;have J:1<=(n:Int):=by omega
 go_enter func148,ntmps148
 have N:=mkO n d G;go_wp2;refine bodyPost_ret (v:= .tuple #[γ (w.heap.size+1),ι 0]) (by simp[results,results148,go_sem]) rfl ?_;refine⟨rfl, ?_,ρ⟩;exact⟨qC η,qs (qB (qj _ _) rfl) _,τ,η,λc H=>by rw[List.eq_of_mem_replicate H];exact zokO,⟨d,G⟩,τ,η,λi hi=>by simp at hi⟩
section
open _root_.Go.Proofs.Tryz renaming func175->Ξb,ntmps175->Ξc,results175->Ξg,underlying56->Ξh
open _root_.Go.Proofs.YtlmllmonabafjaaGreatDoor renaming Ν2->Ξa,DJ->Ξd,Γs->Ξe,Ν56->Ξf
theorem Na (w:World) (R A room first:Nat) (c:List Value) (T:List (List Value)) (I O G H:Int) (css:List (List Value)) (h:qN 2 332 56 w R A room first (c::T) I O G H css):
  Calls prog 175 #[γ R] w λe w'=>e= .returned (.tuple #[θ c.toArray,true])/\(∃co',qN 2 332 56 w' R A room ((first+1)%room) T I co' G H (css.set first Γs))/\qg (RgB R A) w w':=Ψ4
end
end
section
open _root_.Go.Proofs.Tryz
section
open _root_.Go.Proofs.Tryz renaming func202->Ξc,ntmps202->Ξd,underlying56->Ξj,results202->Ξk
open _root_.Go.Proofs.YtlmllmonabafjaaGreatDoor renaming Ν56->Ξa,Γs->Ξb,Mi->Ξe,Ν2->Ξf,Ν332->Ξg,zokO->Ξh,DJ->Ξi
theorem NY (w:World) (R A room first:Nat) (O:List (List Value)) (aa aj Y ai:Int) (css:List (List Value)) (h:qN 2 332 56 w R A room first O aa aj Y ai css) (x:List Value) (ad:x.length=2/\ ∀u∈x,u.oneCell'=true) (ab:Bool) (aP:decide (O.length=room)=ab):
  Calls prog 202 #[γ R,θ x.toArray] w λe w'=> ∃(G:List Value) (f:Nat) (q:List (List Value)) (H:Int) (cs:List (List Value)),e= .returned (.tuple #[θ G.toArray,ab,ι 0])/\(∃ci',qN 2 332 56 w' R A room f (q++[x]) ci' aj H ai (cs.set ((f+q.length)%room) x))/\qg (RgB R A) w w'/\Wt Γs first room O css Y ab G f q H cs:=Ψ5
end
theorem UD (w:World) (R A room first:Nat) (q:List (List Value)) (I H d G:Int) (css:List (List Value)) (h:qN 2 332 56 w R A room first q I H d G css) (ad:q.length<room) (x:List Value) (ac:x.length=2/\ ∀u∈x,u.oneCell'=true):
  Calls prog 202 #[γ R,θ x.toArray] w λe w'=>e= .returned (.tuple #[Γs,μ false,ι 0])/\(∃ci',qN 2 332 56 w' R A room first (q++[x]) ci' H d G (css.set ((first+q.length)%room) x))/\qg (RgB R A) w w':=
 (NY w R A room first q I H d G css h x ac false (decide_eq_false τ)).mono λe w' ⟨_,_,_,_,_,aa,ab,a,J,N,O,U,Y⟩=>by
  subst J N O U Y;exact⟨aa,ab,a⟩
theorem UE (w:World) (R A room first:Nat) (c:List Value) (T:List (List Value)) (O I N G:Int) (css:List (List Value)) (h:qN 2 332 56 w R A room first (c::T) O I N G css) (ab:(c::T).length=room) (x:List Value) (ad:x.length=2/\ ∀u∈x,u.oneCell'=true):
  Calls prog 202 #[γ R,θ x.toArray] w λe w'=>e= .returned (.tuple #[θ c.toArray,true,ι 0])/\(∃H d,qN 2 332 56 w' R A room ((first+1)%room) (T++[x]) H I d G ((css.set first Γs).set (((first+1)%room+T.length)%room) x))/\qg (RgB R A) w w':=
 (NY w R A room first (c::T) O I N G css h x ad true (decide_eq_true ab)).mono λe w' ⟨ae,f,q,d,cs,aa,⟨H,ac⟩,a,J,U,Y⟩=>by
  injection J with J h4
  subst J U Y h4;exact⟨aa,⟨H,d,ac⟩,a⟩
end
section
open _root_.Go.Proofs.Tryz
theorem Af (c:List Value) (h:c.length=2): ∃a0 a1,c=[a0,a1]:=by
 match c,h with
 | [a0,a1],_=>exact⟨a0,a1,rfl⟩
theorem YC {S:Nat->Prop} {w w':World} {base e n m:Nat} {v:Value} {xs:List Value} (h:w.ownsRow base e n v m xs) (a:qg S w w') (H: ∀b,base<=b-> ¬S b):w'.ownsRow base e n v m xs:=by
 obtain⟨d,G⟩:=h;refine⟨d, ?_⟩;rcases G with h | ⟨b,cap,cur,e1,hb,hg,rest⟩
 ·exact Or.inl h
 ·exact Or.inr ⟨b,cap,cur,e1,hb,a.blk hg (H b hb),rest⟩
theorem um {w:World} {base e size n b:Nat} {v:Value} {xs:List Value} (h:w.ownsRow base e size v n xs) (d:v.ownBlock=some b):base<=b:=by
 rcases h.2 with ⟨rfl,_⟩ | ⟨g,cap,cur,rfl,G,_⟩
 ·cases d
 ·obtain rfl:g=b:=by injection d
  exact G
theorem VI {w:World} {base e size n:Nat} {v:Value} {xs:List Value} (h:w.ownsRow base e size v n xs): ∃oa cap,v= δ oa n cap:=by
 rcases h.2 with ⟨rfl,d⟩ | ⟨g,cap,cur,rfl,_⟩
 ·exact⟨none,0,by rw[d]⟩
 ·exact⟨_,cap,rfl⟩
theorem IM (w:World) (R A room first:Nat) (q:List (List Value)) (J N H I:Int) (css:List (List Value)) (h:qN 2 332 56 w R A room first q J N H I css):
  Calls prog 186 #[γ R] w λe w'=> ∃v,e= .returned v/\w'.ownsRow w.heap.size 56 2 v q.length q.flatten/\(∃first' cg' css',qN 2 332 56 w' R A room first' [] J N H cg' css')/\qg (RgB R A) w w':=by
 obtain⟨aH,aI,aJ,aK,aL⟩:=info_parts (P:=prog) (e:=56) (z:= Γs) (size:=2) (bytes:=32) ξ;have ar:=κ h;have aP:R<w.heap.size:=qn h.ring;have aO:A<w.heap.size:=qn h.row;have aV:w.cell? ⟨R,2,none⟩=some (ι q.length):=qb h.ring 2 rfl;have aT:(q.length:Int)<=8:=by have:=h.fits;have:=h.pos.2;omega
 have az:=κ h.qall;clear h
 go_enter func186,ntmps186
 go_wp2
 go_loopw [3,8] (λu af wr=> ∃(j f:Nat) (cs:List (List Value)),j<=q.length/\af= ι j/\(∃ao an aj,u= δ ao an aj)/\wr.ownsRow w.heap.size 56 2 u j (q.take j).flatten/\qN 2 332 56 wr R A room f (q.drop j) J N H I cs/\qg (RgB R A) w wr) (λ_ af _=>q.length-(intOf af).toNat)
 case atStart=>exact⟨0,first,css,τ,rfl,⟨_,_,_,rfl⟩,World.ownsRow_nil w _ _ _,ar.o,qg.refl _ _⟩
 case round=>
  obtain⟨j,f,cs,aR,rfl,⟨ao,an,aj,rfl⟩,d,am,al⟩:=hrel;have ag:=κ d;have G:=κ am;have aa:=κ al;clear d am al;by_cases hlt:j<q.length
  ·have ac:q.drop j=q[j]::q.drop (j+1):=List.drop_eq_getElem_cons hlt;have ae:q.take (j+1)=q.take j++[q[j]]:=by rw[List.take_add_one,List.getElem?_eq_getElem hlt];rfl
   have Y:=az.o q[j] (List.getElem_mem hlt);have aS:(j:Int)<(q.length:Int):=by omega
   obtain⟨c,aB⟩: ∃c,Hid (c=q[j]):=⟨_,κ rfl⟩;rw[<-aB.o] at ac ae Y;have aw:=κ (ac▸G.o);have ax:=κ ae;have aQ:c.toArray.size=2:=by simpa using Y.1
   clear ac ae G;obtain⟨a0,U,rfl⟩:=Af c Y.1
   go_wp2_with (first | (go_at_call 232;(go_call DJ wr R A room f [a0,U] (q.drop (j+1)) J N H I cs aw.o as e w5 ⟨rfl,ak,a5⟩;have au:=κ ak;have ap:=κ a5;have O:=κ (YC ag.o a5 (λb ab e=>by rcases e with e | e<;>omega));have aA:Hid (w.heap.size<=w5.heap.size):=κ (Nat.le_trans aa.o.size a5.size);clear ak a5)) | (at_builtin;refine wpList_append_own_at _ rfl (.tmp 10) (.tmp 13) 53 rfl w.heap.size 56 aH (Γs) 2 32 underlying53 aI aJ aK aL rfl ζ _ j (q.take j).flatten rfl (YC O.o (qg.of_more (qa.alloc _ _)) (λb _ e=>e)) ⟨w5.heap.size,0,none⟩ 1 1 [a0,U] rfl rfl (λi u aE=>by have:=xy (cs:=[a0,U]) (t:=56) (qj w5 (.cells #[a0,U] 56)) i u aE;rw[Addr.add_mid];exact this) Y.2 (by unfold maxLen;omega) τ (by have:=aA.o;simp;omega) ?_;intro v6 w6 d ad aC aF;have ay:=κ d;have aq:Hid (qg (RgB R A) w w6):=κ (((aa.o.trans ap.o).alc _).grown ad (λb ab=>um O.o ab));have av:Hid (qN 2 332 56 w6 R A room ((f+1)%room) (q.drop (j+1)) J N H I (cs.set f Γs)):=κ ((au.o.more (qa.alloc _ _)).away (qg.of_grown ad) (λe=>by have:=um O.o e;omega) (λe=>by have:=um O.o e;omega));obtain⟨aU,aM,rfl⟩:=VI d;clear d ad aC aF))
   go_roundw
   case rel=>exact⟨j+1,(f+1)%room,_,τ,by go_num,⟨_,_,_,rfl⟩,by rw[ax.o,List.flatten_append];simpa using ay.o,av.o,aq.o⟩
   case measure=>simp[intOf];omega
  ·obtain rfl:j=q.length:=by omega
   have aW:wr.cell? ⟨R,7,none⟩=some (ι I):=qb G.o.ring 7 rfl;have aN:wr.frozen? ⟨R,7,none⟩=false:=qd G.o.ring 7;go_wp2;go_ret;have aG:q.drop q.length=[]:=by simp
   have aD:q.take q.length=q:=by simp
   have ai:=G.o;have ah:=ag.o;rw[aG] at ai;rw[aD] at ah;exact⟨_,rfl,YC ah ((qg.refl (λb=>b=R) _).set rfl _) (λb ab e=>by omega),⟨_,_,_,ai.drained _⟩,aa.o.set (Or.inl rfl) _⟩
end
section
open _root_.Go.Proofs.Tryz
theorem Fk (i:Int) (c:List Value) (d:c.length=1) (w:World):Calls prog 187 #[θ (ι i::c).toArray] w λe w'=>e= .returned (ι i)/\qa w w':=by
 obtain⟨a0,G,h⟩:=Af (ι i::c) (by simp[d]);obtain⟨rfl,rfl⟩:a0= ι i/\c=[G]:=by
  injection h with h1 h2
  exact⟨h1.symm,h2⟩
 clear h d
 go_enter func187,ntmps187
 go_wp2;go_ret;exact⟨rfl,ρ⟩
section
open _root_.Go.Proofs.Tryz renaming func185->Ξa,ntmps185->Ξb,underlying56->Ξf
open _root_.Go.Proofs.YtlmllmonabafjaaGreatDoor renaming Fk->Ξc,Ν2->Ξd,Ν56->Ξe,Γs->Ξg
theorem Nk (w:World) (v:Value) (q:List (List Value)) (base:Nat) (row:w.ownsRow base 56 2 v q.length q.flatten) (aa: ∀c∈q,∃i r,c= ι i::r/\r.length=1) (ai: ∀c∈q,∀u∈c,u.oneCell'=true) (aN:q.length<=8):
  Calls prog 185 #[v,.func (.func 187) #[] #[]] w λe w'=>(∃v',e= .returned v'/\w'.ownsRow w.heap.size 3 1 v' (q.map idN).length ((q.map idN).map (Value.int .i64)))/\qa w w':=Ψ6
end
end
section
open _root_.Go.Proofs.Tryz
theorem LO (w:World):(zeroValue 255).run prog w= .ok (Γb) w:=by kernel_rfl
theorem zsC:(Builtin.zeroCells (Γb:Value).cells 1).toList=Γb:=by kernel_rfl
theorem zokC:(Γb:List Value).length=14/\ ∀u∈(Γb:List Value),u.oneCell'=true:=⟨rfl,by simp[Value.oneCell']⟩
section
open _root_.Go.Proofs.Tryz renaming func239->Ξb,ntmps239->Ξc,underlying255->Ξg,underlying328->Ξi,results239->Ξm
open _root_.Go.Proofs.YtlmllmonabafjaaGreatDoor renaming Ν14->Ξa,Γb->Ξd,Ν255->Ξe,Ν330->Ξf,Ν328->Ξh,LO->Ξj,zsC->Ξk,zokC->Ξl
theorem F6 (w:World) (R A room first:Nat) (c:List Value) (T:List (List Value)) (ae af ac ad:Int) (css:List (List Value)) (h:qN 14 330 255 w R A room first (c::T) ae af ac ad css):
  Calls prog 239 #[γ R] w λe w'=>e= .returned (θ c.toArray)/\qN 14 330 255 w' R A room ((first+1)%room) T ae af ac ad (css.set first Γb)/\qg (RgB R A) w w':=Ψ2
end
end
section
open _root_.Go.Proofs.Tryz
theorem Nj {w:World} {R A room first:Nat} {q:List (List Value)} {H I d G:Int} {css:List (List Value)} (h:qN 14 330 255 w R A room first q H I d G css):
  Calls prog 114 #[γ R] w λe w'=>e= .returned (ι q.length)/\w'=w:=by
 have J:w.cell? ⟨R,2,none⟩=some (ι q.length):=qb h.ring 2 rfl;clear h
 go_enter func114,ntmps114
 go_wp2;go_ret;exact⟨rfl,rfl⟩
section
open _root_.Go.Proofs.Tryz renaming func120->Ξa,ntmps120->Ξb
theorem Hf {w:World} {R A room first:Nat} {q:List (List Value)} {H I d G:Int} {css:List (List Value)} (h:qN 14 330 255 w R A room first q H I d G css):
  Calls prog 120 #[γ R] w λe w'=>e= .returned (μ (decide (q.length=room)))/\ ∃k,w'=w.drewN k:=Ψ3
end
theorem mkC (n:Nat) (N:1<=n) (O:n<=8) (w:World):
  (Instr.makeSlice 328 (ι (n:Int)) (ι (n:Int))).run prog w= .ok (δ (some ⟨w.heap.size,0,none⟩) n n) (w.alloc (.cells (List.replicate n (Γb:List Value)).flatten.toArray 255)):=by
 obtain⟨J,hi,G,H,I⟩:=info_parts (P:=prog) (e:=255) (z:= Γb) (size:=14) (bytes:=128) ξ;have d:=run_make (P:=prog) w 328 255 J (Γb) underlying328 hi G .i64 .i64 n n τ τ (by rw[I];omega) τ;rw[d];simp only[Int.toNat_natCast,H];rw[Yq _ 14 n rfl ζ];rfl
theorem Pq (m:Int) (n:Nat) (I:m=n) (d:1<=n) (G:n<=8) (w:World):
  Calls prog 147 #[ι m] w λe w'=>e= .returned (.tuple #[γ (w.heap.size+1),ι 0])/\qN 14 330 255 w' (w.heap.size+1) w.heap.size n 0 [] 0 0 0 0 (List.replicate n (Γb:List Value))/\qa w w':=by
 subst I;have J:1<=(n:Int):=by omega
 go_enter func147,ntmps147
 have N:=mkC n d G;go_wp2;refine bodyPost_ret (v:= .tuple #[γ (w.heap.size+1),ι 0]) (by simp[results,results147,go_sem]) rfl ?_;refine⟨rfl, ?_,ρ⟩;exact⟨qC η,qs (qB (qj _ _) rfl) _,τ,η,λc H=>by rw[List.eq_of_mem_replicate H];exact zokC,⟨d,G⟩,τ,η,λi hi=>by simp at hi⟩
section
open _root_.Go.Proofs.Tryz renaming func200->Ξb,ntmps200->Ξc,results200->Ξg,underlying255->Ξh
open _root_.Go.Proofs.YtlmllmonabafjaaGreatDoor renaming Ν14->Ξa,F6->Ξd,Γb->Ξe,Ν255->Ξf
theorem Nc (w:World) (R A room first:Nat) (c:List Value) (T:List (List Value)) (I O G H:Int) (css:List (List Value)) (h:qN 14 330 255 w R A room first (c::T) I O G H css):
  Calls prog 200 #[γ R] w λe w'=>e= .returned (.tuple #[θ c.toArray,true])/\(∃co',qN 14 330 255 w' R A room ((first+1)%room) T I co' G H (css.set first Γb))/\qg (RgB R A) w w':=Ψ4
end
end
end Go.Proofs.YtlmllmonabafjaaGreatDoor
