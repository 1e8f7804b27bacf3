/- x -/
import Derived.Test.YtlmllmonabafjaaGreatDoorMh1
import Derived.Lib.SliceRun
namespace Go.Proofs.YtlmllmonabafjaaGreatDoor
open Option renaming some->ϊ,none->ϋ
open Bool renaming true->ό,false->ύ
open Go.Value renaming bool->μ,slice->δ,pointer->π,agg->θ
open Go.IntKind renaming i64->ι,u8->υ,u16->φ,u32->ω,i32->χ,u64->ψ
open _root_.Go.Proofs.Tryz
set_option linter.all false
set_option maxHeartbeats 8000000
open Go.RowKit
set_option maxRecDepth 100000
variable {w:World} {q css:List (List Value)} {xs:List Value} {P:Prop} {α β:Type} {v:Value} {S D:Nat->Prop} {base n room:Nat}
def qbx {P:Program} {M:Func} {p u:Tmp} {d H:TypeId} (h:M.results= #[.cell p d,.cell u H]) (tmps:Array Value) (w:World) (g g':Nat) (t t':TypeId) (cs cs':Array Value) (I J:TypeDesc)
  (ab:tmps.getD p undef= γ g) (ad:tmps.getD u undef= γ g') (U:w.heap[g]? =ϊ (.cells cs t (0,0))) (Y:w.heap[g']? =ϊ (.cells cs' t' (0,0)))
  (af:P.underlying d=ϊ I) (N:(match I with | .struct _ | .array _ _=>ό | _=>ύ)=ό) (hi:(P.info? d).map (·.size)=ϊ cs.size)
  (ag:P.underlying H=ϊ J) (O:(match J with | .struct _ | .array _ _=>ό | _=>ύ)=ό) (aa:(P.info? H).map (·.size)=ϊ cs'.size):
  (results M tmps).run P w= .ok (.tuple #[θ cs,θ cs']) w:=by
 have ac:tmps[p]?.getD undef= γ g:=by simpa using ab
 have ae:tmps[u]?.getD undef= γ g':=by simpa using ad
 simp[results,h,ac,ae,asAddr,run_loadVar_row w g t d cs (0,0) I U af N hi,run_loadVar_row w g' t' H cs' (0,0) J Y ag O aa]
structure RwS where
 src:Int
 sq:Int
 st:Int
 any:Bool
 last:Int
 shift:Int
def shL (s:RwS) (t:Int) (first:Bool):Int:=if s.any then (if first then (s.last+3000-t)%4294967296 else s.shift) else (s.st-t)%4294967296
def Az (H sq st la N:Int) (any first:Bool) (J:Bool) (M q t O:Int) (w:World) (X:Int) (d:shL ⟨H,sq,st,any,la,N⟩ t first=X):
    Calls prog 257 #[θ #[ω H,φ sq,ω st,any,ω la,ω N],θ #[μ J,υ M,φ q,ω t,ω O],first] w
      λe w'=>e= .returned (θ #[μ J,υ M,φ sq,ω ((t+X)%4294967296),ω H,ω X])/\ql w w':=by
  cases any with
  | false=>
    obtain rfl:X=(st-t)%4294967296:=by rw[<-d];rfl
    clear d
    have I:(t+(st-t)%4294967296)%4294967296=(t+(st-t))%4294967296:=by omega
    rw[I]
    clear I
    go_enter func257,ntmps257
    go_wp2
    refine bodyPost_ret (v:= θ #[μ J,υ M,φ sq,ω ((t+(st-t))%4294967296),ω H,ω ((st-t)%4294967296)]) (by simp[results,results257,go_sem]) rfl ?_
    exact⟨rfl,ρ⟩
  | true=>
   cases first with
   | true=>
    obtain rfl:X=(la+3000-t)%4294967296:=by rw[<-d];rfl
    clear d
    have I:(t+(la+3000-t)%4294967296)%4294967296=(t+(la+3000-t))%4294967296:=by omega
    rw[I]
    clear I
    go_enter func257,ntmps257
    go_wp2
    refine bodyPost_ret (v:= θ #[μ J,υ M,φ sq,ω ((t+(la+3000-t))%4294967296),ω H,ω ((la+3000-t)%4294967296)]) (by simp[results,results257,go_sem]) rfl ?_
    exact⟨rfl,ρ⟩
   | false=>
    obtain rfl:X=N:=by rw[<-d];rfl
    clear d
    go_enter func257,ntmps257
    go_wp2
    refine bodyPost_ret (v:= θ #[μ J,υ M,φ sq,ω ((t+X)%4294967296),ω H,ω X]) (by simp[results,results257,go_sem]) rfl ?_
    exact⟨rfl,ρ⟩
def AI (d sq st la U:Int) (any first:Bool) (J:Bool) (M q t an:Int) (w:World) (X:Int) (ai:shL ⟨d,sq,st,any,la,U⟩ t first=X) (Z:Int) (aj:(t+X)%4294967296=Z) (Q:Int) (ah:(sq+1)%65536=Q):
  Calls prog 201 #[θ #[ω d,φ sq,ω st,any,ω la,ω U],θ #[μ J,υ M,φ q,ω t,ω an],first] w
   λe w'=>e= .returned (.tuple #[θ #[ω d,φ Q,ω st,ό,ω Z,ω X],θ #[μ J,υ M,φ sq,ω Z,ω d]])/\ql w w':=by
 have Y:=λw=>Az d sq st la U any first J M q t an w X ai
 rw[aj] at Y;have Y:=κ Y;have af:=κ ah;clear ai aj ah
 go_enter func201,ntmps201
 go_wp2_with (refine(Y.o _).mono ?_;rintro e w1 ⟨rfl,O⟩;have H:Hid (w1.heap[w.heap.size]? =ϊ (.cells #[ω d,φ sq,ω st,any,ω la,ω U] 149 (0,0))):=κ (qq O (by repeat (first | exact qC η | refine qs ?_ _)));have ac:Hid (w1.heap[w.heap.size+2]? =ϊ (.cells #[ω 0,φ 0,ω 0,ύ,ω 0,ω 0] 149 (0,0))):=κ (qq O (by repeat (first | exact qC η | refine qs ?_ _)));have aa:Hid (w1.heap[w.heap.size+3]? =ϊ (.cells #[μ ύ,υ 0,φ 0,ω 0,ω 0] 60 (0,0))):=κ (qq O (by repeat (first | exact qC η | refine qs ?_ _)));have ag:Hid (ql w w1):=κ ((((ql.refl w).al _ |>.al _ |>.al _ |>.al _)).trans O);clear O;have aE:w.heap.size<w1.heap.size:=qn H.o;have aA:w1.cell? ⟨w.heap.size,1,ϋ⟩=ϊ (φ sq):=qm H.o 1 rfl;have aB:w1.cell? ⟨w.heap.size,3,ϋ⟩=ϊ (μ any):=qm H.o 3 rfl;have aC:w1.cell? ⟨w.heap.size,4,ϋ⟩=ϊ (ω la):=qm H.o 4 rfl;have aD:w1.cell? ⟨w.heap.size,5,ϋ⟩=ϊ (ω U):=qm H.o 5 rfl;have av:w1.frozen? ⟨w.heap.size,1,ϋ⟩=ύ:=yw H.o 1;have aw:w1.frozen? ⟨w.heap.size,3,ϋ⟩=ύ:=yw H.o 3;have ax:w1.frozen? ⟨w.heap.size,4,ϋ⟩=ύ:=yw H.o 4;have ay:w1.frozen? ⟨w.heap.size,5,ϋ⟩=ύ:=yw H.o 5)
 have am:IntKind.u16.wrap (sq+1)=Q:=af.o;rw[am];obtain⟨W1,N⟩:=ν ((((((w1.setCell ⟨w.heap.size,1,ϋ⟩ (φ Q)).setCell ⟨w.heap.size,3,ϋ⟩ (μ ό)).setCell ⟨w.heap.size,4,ϋ⟩ (ω Z)).setCell ⟨w.heap.size,5,ϋ⟩ (ω X)).alloc (.cells #[μ J,υ M,φ sq,ω Z,ω d,ω X] 429)));have ar:Hid (ql w W1):=κ (by rw[<-N];exact((((ag.o.st (ϔ _) _).st (ϔ _) _).st (ϔ _) _).st (ϔ _) _).al _);have au:Hid (W1.heap[w.heap.size]? =ϊ (.cells #[ω d,φ Q,ω st,ό,ω Z,ω X] 149 (0,0))):=κ (by rw[<-N];exact qs (qB (qp (qp (qp (qp H.o 1 _) 3 _) 4 _) 5 _) rfl) _);have ad:Hid (W1.heap[w.heap.size+2]? =ϊ (.cells #[ω 0,φ 0,ω 0,ύ,ω 0,ω 0] 149 (0,0))):=κ (by rw[<-N];exact qs (qo (qo (qo (qo ac.o ⟨w.heap.size,1,ϋ⟩ _ (by show w.heap.size+2≠w.heap.size;omega)) ⟨w.heap.size,3,ϋ⟩ _ (by show w.heap.size+2≠w.heap.size;omega)) ⟨w.heap.size,4,ϋ⟩ _ (by show w.heap.size+2≠w.heap.size;omega)) ⟨w.heap.size,5,ϋ⟩ _ (by show w.heap.size+2≠w.heap.size;omega)) _);have ae:Hid (W1.heap[w.heap.size+3]? =ϊ (.cells #[μ ύ,υ 0,φ 0,ω 0,ω 0] 60 (0,0))):=κ (by rw[<-N];exact qs (qo (qo (qo (qo aa.o ⟨w.heap.size,1,ϋ⟩ _ (by show w.heap.size+3≠w.heap.size;omega)) ⟨w.heap.size,3,ϋ⟩ _ (by show w.heap.size+3≠w.heap.size;omega)) ⟨w.heap.size,4,ϋ⟩ _ (by show w.heap.size+3≠w.heap.size;omega)) ⟨w.heap.size,5,ϋ⟩ _ (by show w.heap.size+3≠w.heap.size;omega)) _);have ao:Hid (W1.heap[w1.heap.size]? =ϊ (.cells #[μ J,υ M,φ sq,ω Z,ω d,ω X] 429 (0,0))):=κ (by rw[<-N];exact qC η);have aF:w.heap.size+3<w1.heap.size:=qn aa.o;rw[N];clear N ag H ac aa aA aB aC aD av aw ax ay am af;have ap: ∀x:qz (λb=>b=w.heap.size+2∨b=w.heap.size+3) W1,x.w'.rangeAt w.heap.size 0 [ω d,φ Q,ω st,ό,ω Z,ω X]:=λx=>xy (x.h.blk au.o τ)
 have aq: ∀x:qz (λb=>b=w.heap.size+2∨b=w.heap.size+3) W1,x.w'.rangeAt w1.heap.size 0 [μ J,υ M,φ sq,ω Z,ω d]:=λx=>by
  have:=xy (cs:=[μ J,υ M,φ sq,ω Z,ω d,ω X]) (x.h.blk ao.o τ);intro j v ak;refine this j v ?_;have az:=(ϟ.1 ak).1;rw[<-ak];exact Θ (l₂:=[ω X]) az
 refine QN (λb=>b=w.heap.size+2∨b=w.heap.size+3) W1 4 5 [3,4] ?_;refine jh rfl rfl (qi σ) 149 (.tmp 3) rfl w.heap.size 0 rfl [ω d,φ Q,ω st,ό,ω Z,ω X] _ (λw' ab=>by obtain⟨x,rfl⟩:=ab;exact ap x) underlying149 rfl ξ ?_;intro K I;go_simp;refine I _ ?_;clear I K
 refine Qs1 ?_
 refine jh rfl rfl (qi σ) 60 (.tmp 26) rfl w1.heap.size 0 rfl [μ J,υ M,φ sq,ω Z,ω d] _ (λw' ab=>by obtain⟨x,rfl⟩:=ab;exact aq x) underlying60 rfl ξ ?_;intro K I;go_simp;refine I _ ?_;clear I K;refine jR rfl rfl ?_;intro K I;refine jr 149 (.tmp 6) (.tmp 25) rfl (w.heap.size+2) 149 _ #[ω d,φ Q,ω st,ό,ω Z,ω X] rfl rfl (qr ad.o 1) ξ rfl (all_oneCell_toArray X9) ?_;refine⟨qi (((jt.refl (λb=>b=w.heap.size+2∨b=w.heap.size+3) W1).drewN 1).row (g:=w.heap.size+2) (ϑ rfl) _), ?_⟩;go_simp;refine I _ _ ?_;clear I K;refine zY rfl rfl ζ ?_;intro K I;refine jr 60 (.tmp 7) (.tmp 27) rfl (w.heap.size+3) 60 _ #[μ J,υ M,φ sq,ω Z,ω d] rfl rfl (qS (qr ae.o 1) _ τ) ξ rfl (all_oneCell_toArray X9) ?_;refine⟨trivial, ?_⟩;go_simp;refine I _ _ ?_;clear I K;refine qA ?_;go_wp2;refine bodyPost_ret (v:= .tuple #[θ #[ω d,φ Q,ω st,ό,ω Z,ω X],θ #[μ J,υ M,φ sq,ω Z,ω d]]) (qbx results201 _ _ (w.heap.size+2) (w.heap.size+3) 149 60 #[ω d,φ Q,ω st,ό,ω Z,ω X] #[μ J,υ M,φ sq,ω Z,ω d] _ _ rfl rfl (qS (jY (qr ad.o 1) _) _ τ) (jY (qS (qr ae.o 1) _ τ) _) underlying149 rfl ξ underlying60 rfl ξ) rfl ?_;exact⟨rfl,(EC _ _ _).to_more ((EC _ _ _).to_more (ar.o.dr 1) (λk e=>by rw[e];exact Ω _ _)) (λk e=>by rw[e];exact Ω _ _)⟩
structure ItS where
 id:Int
 layer:Int
 key:Bool
 pk:Pk
structure LnS where
 room:Nat
 A:List ItS
 B:List (ItS×Bool)
 C:List (Int×List Int)
 W:List (Int×List Int)
 wanted:Bool
 cur:Int
 tgt:Int
 rw:RwS
 most:Int
 row:Int
 gone:Bool
def Vd (room:Nat) (most src sq st:Int):LnS:=⟨room,[],[],[],[],ύ,0,0,⟨src,sq,st,ύ,0,0⟩,most,0,ύ⟩
def yX (s:LnS) (x:ItS):LnS×Int×Bool:=if s.A.length<s.room then ({s with A:=s.A++[x]},0,ύ) else ({s with A:=s.A.tail++[x]},(s.A.head?.map (·.id)).getD 0,ό)
def xp (s:LnS) (x:ItS):LnS×Int×Bool×Int:=
 if (jj x.layer&&jJ x.pk)=ύ then (s,0,ύ,1) else if s.gone then (s,0,ύ,7) else if s.wanted=ύ then (s,0,ύ,5) else ((yX s x).1,(yX s x).2.1,(yX s x).2.2,0)
def xJ (cur tgt layer:Int) (key:Bool):Int×Int×Bool:=
 if layer=cur then (cur,0,ύ) else if layer=tgt then (if key then (layer,0,ό) else (cur,5,ύ)) else (cur,4,ύ)
def vC (s:LnS) (n:Int):Bool:=if n=1 then decide (0<s.A.length)&&decide (¬s.B.length=s.room) else if n=2 then decide (0<s.B.length) else if n=3 then decide (0<s.C.length) else ύ
def jf (s:LnS):LnS×Int×Int×Bool:=
 if vC s 1=ύ then (s,0,0,ύ) else
 match s.A with
 | []=>(s,0,0,ύ)
 | x::A=>({s with A:=A,cur:=(xJ s.cur s.tgt x.layer x.key).1,B:=if (xJ s.cur s.tgt x.layer x.key).2.1=0 then s.B++[(x,(xJ s.cur s.tgt x.layer x.key).2.2)] else s.B},x.id,(xJ s.cur s.tgt x.layer x.key).2.1,ό)
def kY (r:RwS) (p:Pk) (first:Bool):Pk:={p with sq:=r.sq,st:=(p.st+shL r p.st first)%4294967296,sc:=r.src}
def ul (r:RwS) (p:Pk) (first:Bool):RwS:=⟨r.src,(r.sq+1)%65536,r.st,ό,(p.st+shL r p.st first)%4294967296,shL r p.st first⟩
def NJ (s:LnS) (o:Int×List Int):LnS×Int×Bool:=if s.C.length<s.room then ({s with C:=s.C++[o]},0,ύ) else ({s with C:=s.C.tail++[o]},(s.C.head?.map (·.1)).getD 0,ό)
def qY (s:LnS):LnS×Int×Bool×Bool:=
 match s.B with
 | []=>(s,0,ύ,ύ)
 | (x,f)::B=>((NJ {s with B:=B,rw:=ul s.rw x.pk f} (x.id,pkB (kY s.rw x.pk f))).1,(NJ {s with B:=B,rw:=ul s.rw x.pk f} (x.id,pkB (kY s.rw x.pk f))).2.1,(NJ {s with B:=B,rw:=ul s.rw x.pk f} (x.id,pkB (kY s.rw x.pk f))).2.2,ό)
def V2 (s:LnS) (acc:Bool):Int×Bool×Bool:=if s.gone then (s.row,ό,ύ) else if acc then (0,ύ,ύ) else (s.row+1,s.row+1==s.most,s.row+1==s.most)
def qX (s:LnS) (acc:Bool):LnS×Int×Int×Bool:=
 match s.C with
 | []=>(s,0,0,ύ)
 | o::C=>
  if (V2 s acc).2.2 then ({s with A:=[],B:=[],C:=[],W:=if acc then s.W++[o] else s.W,row:=(V2 s acc).1,gone:=(V2 s acc).2.1},o.1,7,ό)
  else ({s with C:=if acc then C else o::C,W:=if acc then s.W++[o] else s.W,row:=(V2 s acc).1,gone:=(V2 s acc).2.1},o.1,if acc then 1 else 0,ό)
def jO (s:LnS) (n:Int):LnS×Int:=
 if jj n=ύ then (s,1) else if s.gone then (s,7) else ({s with wanted:=ό,cur:=if s.wanted then s.cur else -1,tgt:=n},0)
def zb (p:α->β->Prop):List α->List β->Prop
 | [],[]=>True
 | a::l,b::m=>p a b/\zb p l m
 | _,_=>False
section
variable {α β:Type} {p p':α->β->Prop}
def zb.len: ∀{l:List α} {m:List β},zb p l m->l.length=m.length
 | [],[],_=>rfl
 | _::_,_::_,h=>by simp[zb.len h.2]
 | [],_::_,h=>h.elim
 | _::_,[],h=>h.elim
def zb.mono (k: ∀a b,p a b->p' a b): ∀{l:List α} {m:List β},zb p l m->zb p' l m
 | [],[],_=>trivial
 | _::_,_::_,h=>⟨k _ _ h.1,zb.mono k h.2⟩
 | [],_::_,h=>h.elim
 | _::_,[],h=>h.elim
def zb.snoc: ∀{l:List α} {m:List β} {a:α} {b:β},zb p l m->p a b->zb p (l++[a]) (m++[b])
 | [],[],_,_,_,k=>⟨k,trivial⟩
 | _::_,_::_,_,_,h,k=>⟨h.1,zb.snoc h.2 k⟩
 | [],_::_,_,_,h,_=>h.elim
 | _::_,[],_,_,h,_=>h.elim
def zb.uncons {l:List α} {b:β} {m:List β} (h:zb p l (b::m)): ∃a l',l=a::l'/\p a b/\zb p l' m:=by
 cases l with
 | nil=>exact h.elim
 | cons a l'=>exact⟨a,l',rfl,h.1,h.2⟩
def zb.nil_r {l:List α} (h:zb p l ([]:List β)):l=[]:=by
 cases l with
 | nil=>rfl
 | cons a l'=>exact h.elim
def zb.mem {l:List α} {m:List β} (h:zb p l m): ∀a∈l,∃b∈m,p a b:=by
 induction l generalizing m with
 | nil=>intro a d;simp at d
 | cons c l ih=>
  cases m with
  | nil=>exact h.elim
  | cons b m=>
   intro a d;rcases Ϯ.1 d with rfl | d
   ·exact⟨b,η,h.1⟩
   ·obtain⟨H,I,J⟩:=ih h.2 a d;exact⟨H,by simp[I],J⟩
end
def itC (x:ItS) (vs ve vp:Value):List Value:=[.int .i64 x.id,.int .i64 x.layer,.bool x.key,.bool x.pk.mr,.int .u8 x.pk.ty,.int .u16 x.pk.sq,.int .u32 x.pk.st,.int .u32 x.pk.sc,vs,.bool x.pk.has,.int .u16 x.pk.pr,ve,vp]
def RIt:qL ItS:=λw cs x=> ∃vs ve vp,cs=itC x vs ve vp/\PkS w vs ve vp x.pk/\uf x.pk/\jJ x.pk=ό
def RCh:qL (ItS×Bool):=λw cs x=> ∃vs ve vp,cs=itC x.1 vs ve vp++[.bool x.2]/\PkS w vs ve vp x.1.pk/\uf x.1.pk/\jJ x.1.pk=ό
def ROu:qL (Int×List Int):=λw cs o=> ∃v,cs=[.int .i64 o.1,v]/\SlI .u8 w v o.2/\Byt o.2/\o.2.length<=200
def Ff:QQ ROu:=λ_ _ _ _ m ⟨v,d,H,I⟩=>⟨v,d,H.keep m,I⟩
def jw.chosen {c:List Value} {x:ItS} (f:Bool) (h:jw RIt D w c x):jw RCh D w (c++[μ f]) (x,f):=λw' a=>by
 obtain⟨M,J,vp,rfl,d,H,I⟩:=h w' a;exact⟨M,J,vp,rfl,d,H,I⟩
def RgR (n tr te:Nat) (R:qL α) (D:Nat->Prop) (w:World) (r a room:Nat) (l:List α):Prop:=
 ∃f q ci co cd cg css,qN n tr te w r a room f q ci co cd cg css/\zb (jw R D w) q l
section
variable {α:Type} {n tr te:Nat} {R:qL α} {D D':Nat->Prop} {w w':World} {r a room:Nat} {l:List α}
def RgR.fit (h:RgR n tr te R D w r a room l):l.length<=room/\1<=room/\room<=8/\r<w.heap.size/\a<w.heap.size:=by
 obtain⟨f,q,M,N,I,J,css,d,H⟩:=h;have:=d.fits;have:=H.len;have:=d.pos;exact⟨τ,τ,τ,qn d.ring,qn d.row⟩
def RgR.step (h:RgR n tr te R D w r a room l) (k:jt S w w') (aa: ¬S r) (Y: ¬S a) (O: ∀b,S b->D b) (U: ∀b,D' b->D b∨w'.heap.size<=b):RgR n tr te R D' w' r a room l:=by
 obtain⟨f,q,I,J,d,H,css,M,N⟩:=h;exact⟨f,q,I,J,d,H,css,M.away k aa Y,N.mono λc y ab=>(ab.step (k.mono O)).other U⟩
end
def Γj (x:ItS) (a:Option Addr) (b:Nat) (c:Option Addr) (d:Nat) (e:Option Addr) (f:Nat):Mm:=.o
instance (x:ItS) (a:Option Addr) (b:Nat) (c:Option Addr) (d:Nat) (e:Option Addr) (f:Nat):CoeDep Mm (Γj x a b c d e f) (List Value):=⟨[ι x.id,ι x.layer,μ x.key,μ x.pk.mr,υ x.pk.ty,φ x.pk.sq,ω x.pk.st,ω x.pk.sc,δ a x.pk.ss.length b,μ x.pk.has,φ x.pk.pr,δ c x.pk.ex.length d,δ e x.pk.pl.length f]⟩
instance (x:ItS) (a:Option Addr) (b:Nat) (c:Option Addr) (d:Nat) (e:Option Addr) (f:Nat):CoeDep Mm (Γj x a b c d e f) (Array Value):=⟨((Γj x a b c d e f):List Value).toArray⟩
instance (x:ItS) (a:Option Addr) (b:Nat) (c:Option Addr) (d:Nat) (e:Option Addr) (f:Nat):CoeDep Mm (Γj x a b c d e f) Value:=⟨θ (Γj x a b c d e f)⟩
def Γk (x:ItS) (a:Option Addr) (b:Nat) (c:Option Addr) (d:Nat) (e:Option Addr) (f:Nat) (g:Bool):Mm:=.o
instance (x:ItS) (a:Option Addr) (b:Nat) (c:Option Addr) (d:Nat) (e:Option Addr) (f:Nat) (g:Bool):CoeDep Mm (Γk x a b c d e f g) (List Value):=⟨[ι x.id,ι x.layer,μ x.key,μ x.pk.mr,υ x.pk.ty,φ x.pk.sq,ω x.pk.st,ω x.pk.sc,δ a x.pk.ss.length b,μ x.pk.has,φ x.pk.pr,δ c x.pk.ex.length d,δ e x.pk.pl.length f,μ g]⟩
instance (x:ItS) (a:Option Addr) (b:Nat) (c:Option Addr) (d:Nat) (e:Option Addr) (f:Nat) (g:Bool):CoeDep Mm (Γk x a b c d e f g) (Array Value):=⟨((Γk x a b c d e f g):List Value).toArray⟩
instance (x:ItS) (a:Option Addr) (b:Nat) (c:Option Addr) (d:Nat) (e:Option Addr) (f:Nat) (g:Bool):CoeDep Mm (Γk x a b c d e f g) Value:=⟨θ (Γk x a b c d e f g)⟩
def wQ (v:Value) (l:List Int) (w:World) (h:SlI .u8 w v l) (al:l.length<=1000000):
  Calls prog 50 #[v] w λe w'=>(∃v',e= .returned v'/\w'.ownsRow w.heap.size 5 1 v' l.length (l.map (Value.int .u8)))/\ql w w':=by
 obtain⟨aj,hi,ag,ah,ai⟩:=info_parts (P:=prog) (e:=5) (z:= υ 0) (size:=1) (bytes:=1) ξ;have H:=κ h;obtain⟨ak,cap,rfl,I,J,M,N,d⟩:=h;cases ak with
 | none=>
  obtain rfl:cap=0:=d rfl;obtain rfl:l=[]:=Ϥ τ;clear H I J M N d;have af:=λw=>Lib.run_eql_slice_nil (P:=prog) w 35 5 ϋ 0 0 0 0 underlying35
  go_enter func50,ntmps50
  go_wp2;go_ret;exact⟨⟨_,rfl,World.ownsRow_nil w _ _ _⟩,ql.refl _⟩
 | some ad=>
  clear I J M N d;have Y:(w.alloc (.cells #[] 5)).ownsRow w.heap.size 5 1 (δ (ϊ ⟨w.heap.size,0,ϋ⟩) 0 0) ([]:List Int).length (([]:List Int).map (Value.int .u8)):=World.ownsRow_lit (e:=5) (size:=1) (base:=w.heap.size) w #[] 0 (ϔ _) (by unfold maxLen;omega) rfl;have ab:=κ Y;clear Y;have af:=λw=>Lib.run_eql_slice_nil (P:=prog) w 35 5 (ϊ ad) l.length cap 0 0 underlying35
  go_enter func50,ntmps50
  go_wp2_with (at_builtin;refine xr _ rfl (.tmp 5) (.tmp 6) 35 rfl w.heap.size 5 aj (υ 0) 1 underlying35 hi ag ah ai rfl _ .u8 [] rfl ab.o _ l rfl (H.o.keep X8) (by simp;omega) ζ (ql.alloc w _).size ?_;intro am w2 U O;have ac:=κ U;have aa:Hid (jt (λb=>(δ (ϊ ⟨w.heap.size,0,ϋ⟩) 0 0).ownBlock=ϊ b) (w.alloc (.cells #[] 5)) w2):=κ (jt.of_grown O);clear U O)
  go_ret;refine⟨⟨_,rfl,by simpa using ac.o⟩, ?_⟩;exact((jt.of_more (S:=λb=>b=w.heap.size) (ql.alloc w _)).trans (aa.o.mono λb ae=>by injection ae with e;exact e.symm)).to_more (ql.refl _) (λk e=>by rw[e];exact ϔ _)
def Ad (v:Value) (l:List Int) (w:World) (h:SlI .u32 w v l) (al:l.length<=1000000):
  Calls prog 49 #[v] w λe w'=>(∃v',e= .returned v'/\w'.ownsRow w.heap.size 38 1 v' l.length (l.map (Value.int .u32)))/\ql w w':=by
 obtain⟨aj,hi,ag,ah,ai⟩:=info_parts (P:=prog) (e:=38) (z:= ω 0) (size:=1) (bytes:=4) ξ;have H:=κ h;obtain⟨ak,cap,rfl,I,J,M,N,d⟩:=h;cases ak with
 | none=>
  obtain rfl:cap=0:=d rfl;obtain rfl:l=[]:=Ϥ τ;clear H I J M N d;have af:=λw=>Lib.run_eql_slice_nil (P:=prog) w 61 38 ϋ 0 0 0 0 underlying61
  go_enter func49,ntmps49
  go_wp2;go_ret;exact⟨⟨_,rfl,World.ownsRow_nil w _ _ _⟩,ql.refl _⟩
 | some ad=>
  clear I J M N d;have Y:(w.alloc (.cells #[] 38)).ownsRow w.heap.size 38 1 (δ (ϊ ⟨w.heap.size,0,ϋ⟩) 0 0) ([]:List Int).length (([]:List Int).map (Value.int .u32)):=World.ownsRow_lit (e:=38) (size:=1) (base:=w.heap.size) w #[] 0 (ϔ _) (by unfold maxLen;omega) rfl;have ab:=κ Y;clear Y;have af:=λw=>Lib.run_eql_slice_nil (P:=prog) w 61 38 (ϊ ad) l.length cap 0 0 underlying61
  go_enter func49,ntmps49
  go_wp2_with (at_builtin;refine xr _ rfl (.tmp 5) (.tmp 6) 61 rfl w.heap.size 38 aj (ω 0) 4 underlying61 hi ag ah ai rfl _ .u32 [] rfl ab.o _ l rfl (H.o.keep X8) (by simp;omega) ζ (ql.alloc w _).size ?_;intro am w2 U O;have ac:=κ U;have aa:Hid (jt (λb=>(δ (ϊ ⟨w.heap.size,0,ϋ⟩) 0 0).ownBlock=ϊ b) (w.alloc (.cells #[] 38)) w2):=κ (jt.of_grown O);clear U O)
  go_ret;refine⟨⟨_,rfl,by simpa using ac.o⟩, ?_⟩;exact((jt.of_more (S:=λb=>b=w.heap.size) (ql.alloc w _)).trans (aa.o.mono λb ae=>by injection ae with e;exact e.symm)).to_more (ql.refl _) (λk e=>by rw[e];exact ϔ _)
def LN (w:World):(zeroValue 253).run prog w= .ok (Γa) w:=by kernel_rfl
def zsI:(Builtin.zeroCells (Γa:Value).cells 1).toList=Γa:=by kernel_rfl
def zokI:(Γa:List Value).length=13/\ ∀u∈(Γa:List Value),u.oneCell'=ό:=⟨rfl,by simp[Value.oneCell']⟩
def Ψ2 (h:P:=by
 have am:=κ h;have ai:=h.ofHead;have Y:c.toArray.size=(Ξa:Nat):=by simpa using ai.1
 have aB:=h.fst;have aQ:(first:Int)<(room:Int):=by have:=h.fst;omega
 have aR:0<=(first:Int):=by omega
 have aS:=h.pos.1;have aT:=h.pos.2;have aU:((c::T).length:Int)<=8:=by have:=h.fits;have:=h.pos.2;omega
 clear h
 go_enter Ξb,Ξc
 go_wp2;obtain⟨W1,ag⟩:=ν (w.alloc (.cells Ξd (Ξe:Nat)));have av:Hid (ql w W1):=κ (by rw[<-ag];exact ql.alloc _ _);have M:Hid (qN (Ξa:Nat) (Ξf:Nat) (Ξe:Nat) W1 R A room first (c::T) ae af ac ad css):=κ (am.o.more av.o);have aj:Hid (W1.heap[w.heap.size]? =ϊ (.cells Ξd (Ξe:Nat) (0,0))):=κ (by rw[<-ag];exact qj w _);have aP:R<w.heap.size:=qn am.o.ring;have aN:A<w.heap.size:=qn am.o.row;rw[ag];have aC:w.heap.size<W1.heap.size:=qn aj.o;generalize aV:w.heap.size=rc at *;clear ag;have aa: ∀x:qt W1,x.w'.cell? ⟨R,0,ϋ⟩=ϊ (δ (ϊ ⟨A,0,ϋ⟩) room room):=λx=>x.cell (qn M.o.ring) (qm M.o.ring 0 rfl)
 have ab: ∀x:qt W1,x.w'.cell? ⟨R,1,ϋ⟩=ϊ (ι first):=λx=>x.cell (qn M.o.ring) (qm M.o.ring 1 rfl)
 refine Qn W1 11 12 [10,11] ?_
 refine Qq9 ?_
 have au: ∀x:qt W1,x.w'.rangeAt A (first* (Ξa:Nat)) c:=λx=>by have:=(M.o.more x.h).range aB;rw[M.o.head] at this;exact this
 refine jh rfl rfl (qk ρ) (Ξe:Nat) (.tmp 12) rfl A (first* (Ξa:Nat)) rfl c _ (λw' aI=>by obtain⟨x,rfl⟩:=aI;exact au x) Ξg rfl (by rw[ai.1];kernel_rfl) ?_;intro K d;go_simp;refine d _ ?_;clear d K
 (refine Ql ?_;intro K d)
 refine⟨qk ρ,d _ _ ?_⟩;clear d K;refine zY rfl rfl ζ ?_;intro K d;refine jr (Ξe:Nat) (.tmp 3) (.tmp 13) rfl W1.heap.size (Ξe:Nat) _ c.toArray rfl rfl (qj _ _) (by rw[Y];kernel_rfl) (by rw[Y];rfl) (all_oneCell_toArray ai.2) ?_;refine⟨trivial, ?_⟩;go_simp;refine d _ _ ?_;clear d K;refine qA ?_;obtain⟨W2,ah⟩:=ν (((W1.drewN 1).alloc (.cells Ξd (Ξe:Nat))).setRow W1.heap.size c.toArray);have ax:Hid (W2.heap[W1.heap.size]? =ϊ (.cells c.toArray (Ξe:Nat) (0,0))):=κ (by rw[<-ah];exact jY (qj _ _) _);have an:Hid (ql W1 W2):=κ (by rw[<-ah];exact(EC _ _ _).to_more (((ql.refl W1).dr 1).al _) (λk e=>by rw[e];exact ϔ _));have H:=κ (M.o.more an.o);have ap:=κ (qq an.o aj.o);have aO:R<W1.heap.size:=ϗ τ (S1 aC);have aM:A<W1.heap.size:=ϗ τ (S1 aC);rw[ah];generalize W1.heap.size=xc at *;clear ah aa ab au aj M
 go_wp2_with fail
 have aa: ∀x:qz (λb=>b=A) W2,x.w'.cell? ⟨R,0,ϋ⟩=ϊ (δ (ϊ ⟨A,0,ϋ⟩) room room):=λx=>x.cell (qn H.o.ring) H.o.ne (qm H.o.ring 0 rfl)
 have ab: ∀x:qz (λb=>b=A) W2,x.w'.cell? ⟨R,1,ϋ⟩=ϊ (ι first):=λx=>x.cell (qn H.o.ring) H.o.ne (qm H.o.ring 1 rfl)
 refine QN (λb=>b=A) W2 15 15 [14] ?_
 refine Qq ?_
 refine jR rfl rfl ?_;intro K d;have aA:=kW (P:=prog) (W2.drewN 1) (Ξh:Nat) 0 (Ξe:Nat) _ Ξd Ξi Ξj Ξk A (first* (Ξa:Nat)) (room-first) css.flatten.toArray (qr H.o.row 1) (by rw[H.o.size];have:=A8 (Ξa:Nat) (show first+1<=room by omega);simp;omega) Ξl.2;simp only[List.toList_toArray] at aA;unfold jn;go_simp;refine⟨qi (((jt.refl (λb=>b=A) W2).drewN 1).row (g:=A) rfl _),d _ _ ?_⟩;clear d K aA aa ab;refine qA ?_;obtain⟨I,O⟩:=ν ((W2.drewN 1).setRow A (xQ css.flatten (first* (Ξa:Nat)) Ξd).toArray);have ao:Hid (jt (RgB R A) W2 I):=κ (by rw[<-O];exact((jt.refl _ _).drewN 1).row (ϕ rfl) _);have J:Hid (I.heap[R]? =ϊ (.cells (jV A room first (c::T).length ae af ac ad) (Ξf:Nat) (0,0))):=κ (by rw[<-O];exact qS (qr H.o.ring 1) _ H.o.ne);have aw:Hid (I.heap[A]? =ϊ (.cells (css.set first Ξd).flatten.toArray (Ξe:Nat) (0,0))):=κ (by rw[<-O,<-JO css first _ H.o.cl Ξl.1 (by rw[H.o.len];exact aB)];exact jY (qr H.o.row 1) _);have ay:Hid (I.heap[xc]? =ϊ (.cells c.toArray (Ξe:Nat) (0,0))):=κ (by rw[<-O];exact qS (qr ax.o 1) _ τ);have aq:Hid (I.heap[rc]? =ϊ (.cells Ξd (Ξe:Nat) (0,0))):=κ (by rw[<-O];exact qS (qr ap.o 1) _ τ);rw[O];clear O ax ap
 go_wp2_with fail
 have aa: ∀x:qt I,x.w'.cell? ⟨R,0,ϋ⟩=ϊ (δ (ϊ ⟨A,0,ϋ⟩) room room):=λx=>x.cell (qn J.o) (qm J.o 0 rfl)
 have ab: ∀x:qt I,x.w'.cell? ⟨R,1,ϋ⟩=ϊ (ι first):=λx=>x.cell (qn J.o) (qm J.o 1 rfl)
 have aG:I.frozen? ⟨R,1,ϋ⟩=ύ:=yw J.o 1;have aJ:I.cell? ⟨R,1,ϋ⟩=ϊ (ι first):=qm J.o 1 rfl;refine Qn I 14 15 [12,14] ?_
 refine Qs ?_
 (refine Ql ?_;intro K d)
 refine⟨qk ρ,d _ _ ?_⟩;clear d K
 refine Qq1 ?_
 (refine Qe ?_;intro K d)
 refine d _ _ ?_;clear d K aa ab;refine qA ?_;have az:((first:Int)+1)%(room:Int)=(((first+1)%room:Nat):Int):=by rw[I5];rfl
 rw[az];obtain⟨N,U⟩:=ν ((I.drewN 1).setCell ⟨R,1,ϋ⟩ (ι ((first+1)%room:Nat)));have aD:Hid (jt (RgB R A) W2 N):=κ (by rw[<-U];exact(ao.o.drewN 1).set (ϑ rfl) _);have ak:Hid (N.heap[R]? =ϊ (.cells (jV A room ((first+1)%room) (c::T).length ae af ac ad) (Ξf:Nat) (0,0))):=κ (by rw[<-U];exact qB (qp (qr J.o 1) 1 _) rfl);have aE:Hid (N.heap[A]? =ϊ (.cells (css.set first Ξd).flatten.toArray (Ξe:Nat) (0,0))):=κ (by rw[<-U];exact qo (qr aw.o 1) _ _ (C4 H.o.ne));have aF:Hid (N.heap[xc]? =ϊ (.cells c.toArray (Ξe:Nat) (0,0))):=κ (by rw[<-U];exact qo (qr ay.o 1) _ _ (by show xc≠R;omega));have ar:Hid (N.heap[rc]? =ϊ (.cells Ξd (Ξe:Nat) (0,0))):=κ (by rw[<-U];exact qo (qr aq.o 1) _ _ (by show rc≠R;omega));rw[U];clear U ao J aw ay aq aG aJ az;have aW:N.cell? ⟨R,2,ϋ⟩=ϊ (ι (c::T).length):=qm ak.o 2 rfl;have aL:N.frozen? ⟨R,2,ϋ⟩=ύ:=yw ak.o 2;have aK:(((c::T).length:Nat):Int)-1=(T.length:Int):=by simp
 go_wp2_with (first | (refine vO rfl (Ξe:Nat) (.tmp 3) rfl xc (Ξe:Nat) c.toArray _ (qo aF.o _ _ (by show xc≠R;omega)) rfl Ξg rfl (by rw[Y];kernel_rfl) ?_) | (refine xW rfl (Ξe:Nat) (.tmp 2) (.tmp 49) rfl rc (Ξe:Nat) _ c.toArray (qo ar.o _ _ (by show rc≠R;omega)) rfl rfl (by rw[Y];kernel_rfl) (by rw[Y];rfl) (all_oneCell_toArray ai.2) ?_))
 have aH:R≠A:=H.o.ne;refine bodyPost_ret (v:= θ c.toArray) (results_cell_row Ξm _ _ rc (Ξe:Nat) c.toArray (0,0) _ rfl (jY (qo ar.o _ _ (by show rc≠R;omega)) _) Ξg rfl (by rw[Y];kernel_rfl)) rfl ?_;refine⟨rfl, ?_, ?_⟩
 ·exact H.o.took Ξl (qS (qB (qp ak.o 2 _) (by simp[jV])) _ τ) (qS (qo aE.o _ _ (C4 aH)) _ τ)
 ·exact(((jt.of_more (av.o.trans an.o)).trans aD.o).set (ϑ rfl) _).rowNew τ _):P:=h
section
open _root_.Go.Proofs.Tryz renaming func238->Ξb,ntmps238->Ξc,underlying253->Ξg,underlying325->Ξi,results238->Ξm
open _root_.Go.Proofs.YtlmllmonabafjaaGreatDoor renaming Ν13->Ξa,Γa->Ξd,Ν253->Ξe,Ν327->Ξf,Ν325->Ξh,LN->Ξj,zsI->Ξk,zokI->Ξl
def DK (w:World) (R A room first:Nat) (c:List Value) (T:List (List Value)) (ae af ac ad:Int) (css:List (List Value)) (h:qN 13 327 253 w R A room first (c::T) ae af ac ad css):
  Calls prog 238 #[γ R] w λe w'=>e= .returned (θ c.toArray)/\qN 13 327 253 w' R A room ((first+1)%room) T ae af ac ad (css.set first Γa)/\jt (RgB R A) w w':=Ψ2
end
def Ni {R A first:Nat} {I J d H:Int} (h:qN 13 327 253 w R A room first q I J d H css):
  Calls prog 113 #[γ R] w λe w'=>e= .returned (ι q.length)/\w'=w:=by
 have M:w.cell? ⟨R,2,ϋ⟩=ϊ (ι q.length):=qm h.ring 2 rfl;clear h
 go_enter func113,ntmps113
 go_wp2;go_ret;exact⟨rfl,rfl⟩
def Ψ3 (h:P:=by
 have O:w.cell? ⟨R,0,ϋ⟩=ϊ (δ (ϊ ⟨A,0,ϋ⟩) room room):=qm h.ring 0 rfl;have U:w.cell? ⟨R,2,ϋ⟩=ϊ (ι q.length):=qm h.ring 2 rfl;have N:((q.length:Int)==(room:Int))=decide (q.length=room):=by by_cases e:q.length=room<;>simp[e];omega
 clear h
 go_enter Ξa,Ξb
 go_wp2;refine wp_region_quiet_lit ξ ξ ?_
 repeat (go_big_quiet_step (fail))
 refine wpQuiet_nil ?_;intro _ M;obtain⟨nq,rfl⟩:=M;go_wp2;go_ret;exact⟨rfl,nq,rfl⟩):P:=h
section
open _root_.Go.Proofs.Tryz renaming func256->Ξa,ntmps256->Ξb
def Mj {R A first:Nat} {I J d H:Int} (h:qN 13 327 253 w R A room first q I J d H css):
  Calls prog 256 #[γ R] w λe w'=>e= .returned (μ (decide (q.length=room)))/\ ∃k,w'=w.drewN k:=Ψ3
end
def mkI (n:Nat) (N:1<=n) (O:n<=8) (w:World):
  (Instr.makeSlice 325 (ι (n:Int)) (ι (n:Int))).run prog w= .ok (δ (ϊ ⟨w.heap.size,0,ϋ⟩) n n) (w.alloc (.cells (List.replicate n (Γa:List Value)).flatten.toArray 253)):=by
 obtain⟨M,hi,H,I,J⟩:=info_parts (P:=prog) (e:=253) (z:= Γa) (size:=13) (bytes:=120) ξ;have d:=run_make (P:=prog) w 325 253 M (Γa) underlying325 hi H .i64 .i64 n n τ τ (by rw[J];omega) τ;rw[d];simp only[Ψ,I];rw[Yq _ 13 n rfl ζ];rfl
def Pp (m:Int) (n:Nat) (J:m=n) (d:1<=n) (H:n<=8) (w:World):
  Calls prog 146 #[ι m] w λe w'=>e= .returned (.tuple #[γ (w.heap.size+1),ι 0])/\qN 13 327 253 w' (w.heap.size+1) w.heap.size n 0 [] 0 0 0 0 (List.replicate n (Γa:List Value))/\ql w w':=by
 subst J;have M:1<=(n:Int):=by omega
 go_enter func146,ntmps146
 have N:=mkI n d H;go_wp2;refine bodyPost_ret (v:= .tuple #[γ (w.heap.size+1),ι 0]) (by simp[results,results146,go_sem]) rfl ?_;refine⟨rfl, ?_,ρ⟩;exact⟨qC η,qs (qB (qj _ _) rfl) _,τ,η,λc I=>by rw[G2 I];exact zokI,⟨d,H⟩,τ,η,λi hi=>by simp at hi⟩
def Ψ4 (h:P:=by
 have d:=κ h;have Y:=h.ofHead;have M:c.toArray.size=(Ξa:Nat):=by simpa using Y.1
 have af:(((c::T).length:Int)==0)=ύ:=by simp;omega
 clear h;have ae:R<w.heap.size:=qn d.o.ring;have ad:A<w.heap.size:=qn d.o.row;have ag:w.cell? ⟨R,2,ϋ⟩=ϊ (ι (c::T).length):=qm d.o.ring 2 rfl;have ah:w.cell? ⟨R,5,ϋ⟩=ϊ (ι O):=qm d.o.ring 5 rfl;have ac:w.frozen? ⟨R,5,ϋ⟩=ύ:=yw d.o.ring 5
 go_enter Ξb,Ξc
 go_wp2_with (first | (((with_reducible refine(Ξd _ R A room first c T J _ H I css ((d.o.popped _).more X8)).mono ?_);rintro e w5 ⟨rfl,U,a5⟩;have ab:=κ U;have aa:Hid (jt (RgB R A) w w5):=κ ((((jt.refl _ _).set (ϑ rfl) _).alc _).trans a5);have N:Hid (w5.heap[w.heap.size]? =ϊ (.cells Ξe (Ξf:Nat) (0,0))):=κ (a5.blk (qC η) Y5);clear U a5)) | (refine xW rfl (Ξf:Nat) (.tmp 2) (.tmp 21) rfl w.heap.size (Ξf:Nat) _ c.toArray N.o rfl rfl (by rw[M];kernel_rfl) (by rw[M];rfl) (all_oneCell_toArray Y.2) ?_))
 refine bodyPost_ret (v:= .tuple #[θ c.toArray,ό]) (yo Ξg _ _ w.heap.size (Ξf:Nat) c.toArray _ _ rfl rfl (jY N.o _) Ξh rfl (by rw[M];kernel_rfl)) rfl ?_;exact⟨rfl,⟨_,ab.o.away (EC _ _ _) (λe:R=w.heap.size=>by omega) (λe:A=w.heap.size=>by omega)⟩,aa.o.rowNew (ϔ _) _⟩):P:=h
section
open _root_.Go.Proofs.Tryz renaming func197->Ξb,ntmps197->Ξc,results197->Ξg,underlying253->Ξh
open _root_.Go.Proofs.YtlmllmonabafjaaGreatDoor renaming Ν13->Ξa,DK->Ξd,Γa->Ξe,Ν253->Ξf
def Nb (w:World) (R A room first:Nat) (c:List Value) (T:List (List Value)) (J O H I:Int) (css:List (List Value)) (h:qN 13 327 253 w R A room first (c::T) J O H I css):
  Calls prog 197 #[γ R] w λe w'=>e= .returned (.tuple #[θ c.toArray,ό])/\(∃co',qN 13 327 253 w' R A room ((first+1)%room) T J co' H I (css.set first Γa))/\jt (RgB R A) w w':=Ψ4
end
def Ψ5 (h:P:=by
 have U:=κ h;have bh:R<w.heap.size:=qn h.ring;have bg:A<w.heap.size:=qn h.row;have bp:(((w.alloc (.cells x.toArray (Ξa:Nat))).alloc (.cells Ξb (Ξa:Nat))).alloc (.cells Ξb (Ξa:Nat))).cell? ⟨R,3,ϋ⟩=ϊ (μ ύ):=qm (qs (qs (qs h.ring _) _) _) 3 rfl;have au:=κ aP;clear h aP
 go_enter Ξc,Ξd
 go_upto_if 16 with (first | (((with_reducible refine(Ξe (U.o.more (((ql.refl w).al _).al _ |>.al _))).mono ?_);rintro e an ⟨rfl,bn,ak⟩;rw[au.o];have ag:Hid (ql w an):=κ (by rw[ak];exact(((ql.refl w).al _).al _ |>.al _).dr _);have az:Hid (an.heap[w.heap.size]? =ϊ (.cells x.toArray (Ξa:Nat) (0,0))):=κ (by rw[ak];exact qr (qs (qs (qj _ _) _) _) _);have aw:Hid (an.heap[w.heap.size+1]? =ϊ (.cells Ξb (Ξa:Nat) (0,0))):=κ (by rw[ak];exact qr (qs (qC η) _) _);have ax:Hid (an.heap[w.heap.size+2]? =ϊ (.cells Ξb (Ξa:Nat) (0,0))):=κ (by rw[ak];exact qr (qC η) _);clear ak)))
 go_cut [] from 17 to 67 (λao=> ∃(H:List Value) (f:Nat) (q:List (List Value)) (J:Int) (cs:List (List Value)),qN (Ξf:Nat) (Ξg:Nat) (Ξa:Nat) ao R A room f q aa aj J ai cs/\jt (RgB R A) w ao/\ao.heap[w.heap.size]? =ϊ (.cells x.toArray (Ξa:Nat) (0,0))/\ao.heap[w.heap.size+1]? =ϊ (.cells Ξb (Ξa:Nat) (0,0))/\ao.heap[w.heap.size+2]? =ϊ (.cells H.toArray (Ξa:Nat) (0,0))/\q.length<room/\(H.length=(Ξf:Nat)/\ ∀u∈H,u.oneCell'=ό)/\Wt Ξb first room O css Y ab H f q J cs)
 case first=>
  cases ab with
  | false=>
   have aD:O.length<room:=by have:=U.o.fits;have:=A5 au.o;omega
   go_wp2;go_meet;exact⟨Ξb,first,O,Y,css,U.o.more ag.o,jt.of_more ag.o,az.o,aw.o,ax.o,aD,Ξh,rfl,rfl,rfl,rfl,rfl⟩
  | true=>
   cases O with
   | nil=>exact ϩ (Ϛ au.o) (by have:=U.o.pos;simp;omega)
   | cons c T=>
    have aC:=U.o.ofHead;have N:c.toArray.size=(Ξf:Nat):=by simpa using aC.1
    have aD:T.length<room:=by have:=Ϛ au.o;simp at this;omega
    go_wp2_with (first | (((with_reducible refine(Ξi an R A room first c T aa aj Y ai css (U.o.more ag.o)).mono ?_);rintro e w5 ⟨rfl,ac,a5⟩;have aK:=κ ac;have aF:=κ a5;have aL:=κ (a5.blk az.o Y5);have aH:=κ (a5.blk aw.o Y5);have ay:=κ (a5.blk ax.o Y5);clear ac a5)) | (refine yL (.store (Ξa:Nat) (.tmp 7) (.tmp 18)) rfl ?_;refine xW rfl (Ξa:Nat) (.tmp 7) (.tmp 18) rfl (w.heap.size+2) (Ξa:Nat) _ c.toArray ay.o rfl rfl (by rw[N];kernel_rfl) (by rw[N];rfl) (all_oneCell_toArray aC.2) ?_;obtain⟨w6,aT⟩: ∃w6,w5.setRow (w.heap.size+2) c.toArray=w6:=⟨_,rfl⟩;have ar:=κ (aK.o.away (EC w5 (w.heap.size+2) c.toArray) (λe:R=w.heap.size+2=>by omega) (λe:A=w.heap.size+2=>by omega));have ap:Hid (jt (RgB R A) w (w5.setRow (w.heap.size+2) c.toArray)):=κ (((jt.of_more ag.o).trans aF.o).rowNew τ _);have aN:Hid ((w5.setRow (w.heap.size+2) c.toArray).heap[w.heap.size]? =_):=κ (qS aL.o _ τ);have ae:Hid ((w5.setRow (w.heap.size+2) c.toArray).heap[w.heap.size+1]? =_):=κ (qS aH.o _ τ);have aq:Hid ((w5.setRow (w.heap.size+2) c.toArray).heap[w.heap.size+2]? =_):=κ (jY ay.o c.toArray);rw[aT] at ar ap aN ae aq ⊢;clear aT aK aF aL aH ay;have br:w6.cell? ⟨R,6,ϋ⟩=ϊ (ι Y):=qm ar.o.ring 6 rfl;have bf:w6.frozen? ⟨R,6,ϋ⟩=ύ:=yw ar.o.ring 6))
    go_meet;exact⟨c,_,T,_,css.set first Ξb,ar.o.dropped _,ap.o.set (ϑ rfl) _,qo aN.o _ _ (by show w.heap.size≠R;omega),qo ae.o _ _ (by show w.heap.size+1≠R;omega),qo aq.o _ _ (by show w.heap.size+2≠R;omega),aD,aC,rfl,rfl,rfl⟩
 case rest=>
 obtain⟨H,f,q,J,cs,ac,a5,aE,aA,c5,bb,aR,aS⟩:=hcut;have N:H.toArray.size=(Ξf:Nat):=by simpa using aR.1
 obtain⟨ah,aB⟩:=ν (wc);rw[aB] at ac a5 aE aA c5;rw[aB];have d:=κ ac;have aG:=κ a5;have aM:=κ aE;have aI:=κ aA;have aJ:=κ c5;have aU:=κ aS;clear ac a5 aE aA c5 aS aB ag az aw ax
 go_upto_region 8 with fail
 have aV: ∀x:qt ah,x.w'.cell? ⟨R,0,ϋ⟩=ϊ (δ (ϊ ⟨A,0,ϋ⟩) room room):=λx=>x.cell (qn d.o.ring) (qm d.o.ring 0 rfl)
 have aW: ∀x:qt ah,x.w'.cell? ⟨R,1,ϋ⟩=ϊ (ι f):=λx=>x.cell (qn d.o.ring) (qm d.o.ring 1 rfl)
 have aX: ∀x:qt ah,x.w'.cell? ⟨R,2,ϋ⟩=ϊ (ι q.length):=λx=>x.cell (qn d.o.ring) (qm d.o.ring 2 rfl)
 have bk:((f:Int)+(q.length:Int))%(room:Int)=(((f+q.length)%room:Nat):Int):=by rw[I5];rfl
 have ba:(f+q.length)%room<room:=J3 _ τ;have hi:(((f+q.length)%room:Nat):Int)<(room:Int):=by omega
 have bl:=d.o.pos;have bi:=d.o.fst;have bj:(f:Int)<=8:=by omega
 have bm:(q.length:Int)<=8:=by omega
 generalize aZ:(f+q.length)%room=I at *;refine Qn ah 21 22 [21] ?_
 refine Ny ?_
 refine jh rfl rfl (qk ρ) (Ξa:Nat) (.tmp 3) rfl w.heap.size 0 rfl x _ (λw' bc=>by obtain⟨y,rfl⟩:=bc;exact xy (qq y.h aM.o)) Ξj rfl (by rw[ad.1];kernel_rfl) ?_;intro K am;go_simp;refine am _ ?_;clear am K
 refine Qq1 ?_
 refine zY rfl rfl ζ ?_;intro K am;refine zF (Ξa:Nat) (.tmp 48) (.tmp 47) rfl A (I* (Ξf:Nat)) (Ξa:Nat) cs.flatten.toArray x rfl rfl (qr d.o.row 1) (by rw[d.o.size,ad.1];have:=A8 (Ξf:Nat) (show I+1<=room by omega);omega) (by rw[ad.1];kernel_rfl) ad.2 ?_;refine⟨trivial, ?_⟩;go_simp;refine am _ _ ?_;clear am K aV aW aX;refine qA ?_;obtain⟨W6,M⟩:=ν ((ah.drewN 1).setRow A (xQ cs.flatten (I* (Ξf:Nat)) x).toArray);have ap:Hid (jt (RgB R A) w W6):=κ (by rw[<-M];exact(aG.o.drewN 1).row (ϕ rfl) _);have af:Hid (W6.heap[R]? =ϊ (.cells (jV A room f q.length aa aj J ai) (Ξg:Nat) (0,0))):=κ (by rw[<-M];exact qS (qr d.o.ring 1) _ d.o.ne);have aY:Hid (W6.heap[A]? =ϊ (.cells (cs.set I x).flatten.toArray (Ξa:Nat) (0,0))):=κ (by rw[<-M,<-JO cs I _ d.o.cl ad.1 (by rw[d.o.len];exact ba)];exact jY (qr d.o.row 1) _);have ae:Hid (W6.heap[w.heap.size+1]? =ϊ (.cells Ξb (Ξa:Nat) (0,0))):=κ (by rw[<-M];exact qS (qr aI.o 1) _ τ);have aq:Hid (W6.heap[w.heap.size+2]? =ϊ (.cells H.toArray (Ξa:Nat) (0,0))):=κ (by rw[<-M];exact qS (qr aJ.o 1) _ τ);rw[M];clear M aG aM aI aJ;have aO:w.heap.size+2≠R:=by omega
 have av:w.heap.size+1≠R:=by omega
 have bo:W6.cell? ⟨R,2,ϋ⟩=ϊ (ι q.length):=qm af.o 2 rfl;have bd:W6.frozen? ⟨R,2,ϋ⟩=ύ:=yw af.o 2;have bq:W6.cell? ⟨R,4,ϋ⟩=ϊ (ι aa):=qm af.o 4 rfl;have be:W6.frozen? ⟨R,4,ϋ⟩=ύ:=yw af.o 4
 go_wp2_with (first | (refine yL (.load (Ξa:Nat) (.tmp 7)) rfl ?_;refine vO rfl (Ξa:Nat) (.tmp 7) rfl (w.heap.size+2) (Ξa:Nat) H.toArray _ (qo (qo aq.o ⟨R,2,ϋ⟩ _ aO) ⟨R,4,ϋ⟩ _ aO) rfl Ξj rfl (by rw[N];kernel_rfl) ?_) | (refine yL (.store (Ξa:Nat) (.tmp 4) (.tmp 65)) rfl ?_;refine xW rfl (Ξa:Nat) (.tmp 4) (.tmp 65) rfl (w.heap.size+1) (Ξa:Nat) _ H.toArray (qo (qo ae.o ⟨R,2,ϋ⟩ _ av) ⟨R,4,ϋ⟩ _ av) rfl rfl (by rw[N];kernel_rfl) (by rw[N];rfl) (all_oneCell_toArray aR.2) ?_))
 have aQ:R≠A:=d.o.ne;refine bodyPost_ret (v:= .tuple #[θ H.toArray,ab,ι 0]) (KW Ξk _ _ (w.heap.size+1) (Ξa:Nat) H.toArray _ _ _ rfl rfl rfl (jY (qo (qo ae.o ⟨R,2,ϋ⟩ _ av) ⟨R,4,ϋ⟩ _ av) _) Ξj rfl (by rw[N];kernel_rfl)) rfl ?_;subst aZ;refine⟨_,_,_,_,_,rfl,⟨wrap64 (aa+1),d.o.put bb ad ?_ ?_⟩,((ap.o.set (ϑ rfl) _).set (ϑ rfl) _).rowNew τ _,aU.o⟩
 ·exact qS (qB (qp (qp af.o 2 _) 4 _) rfl) _ τ
 ·exact qS (qo (qo aY.o _ _ (C4 aQ)) _ _ (C4 aQ)) _ τ):P:=h
section
open _root_.Go.Proofs.Tryz renaming func196->Ξc,ntmps196->Ξd,underlying253->Ξj,results196->Ξk
open _root_.Go.Proofs.YtlmllmonabafjaaGreatDoor renaming Ν253->Ξa,Γa->Ξb,Mj->Ξe,Ν13->Ξf,Ν327->Ξg,zokI->Ξh,DK->Ξi
def ZG (w:World) (R A room first:Nat) (O:List (List Value)) (aa aj Y ai:Int) (css:List (List Value)) (h:qN 13 327 253 w R A room first O aa aj Y ai css) (x:List Value) (ad:x.length=13/\ ∀u∈x,u.oneCell'=ό) (ab:Bool) (aP:decide (O.length=room)=ab):
  Calls prog 196 #[γ R,θ x.toArray] w λe w'=> ∃(H:List Value) (f:Nat) (q:List (List Value)) (J:Int) (cs:List (List Value)),e= .returned (.tuple #[θ H.toArray,ab,ι 0])/\(∃ci',qN 13 327 253 w' R A room f (q++[x]) ci' aj J ai (cs.set ((f+q.length)%room) x))/\jt (RgB R A) w w'/\Wt Γa first room O css Y ab H f q J cs:=Ψ5
end
def UF (w:World) (R A room first:Nat) (q:List (List Value)) (J I d H:Int) (css:List (List Value)) (h:qN 13 327 253 w R A room first q J I d H css) (ad:q.length<room) (x:List Value) (ac:x.length=13/\ ∀u∈x,u.oneCell'=ό):
  Calls prog 196 #[γ R,θ x.toArray] w λe w'=>e= .returned (.tuple #[Γa,μ ύ,ι 0])/\(∃ci',qN 13 327 253 w' R A room first (q++[x]) ci' I d H (css.set ((first+q.length)%room) x))/\jt (RgB R A) w w':=
 (ZG w R A room first q J I d H css h x ac ύ (Ϩ τ)).mono λe w' ⟨_,_,_,_,_,aa,ab,a,M,N,O,U,Y⟩=>by
  subst M N O U Y;exact⟨aa,ab,a⟩
def UG (w:World) (R A room first:Nat) (c:List Value) (T:List (List Value)) (O J N H:Int) (css:List (List Value)) (h:qN 13 327 253 w R A room first (c::T) O J N H css) (ab:(c::T).length=room) (x:List Value) (ad:x.length=13/\ ∀u∈x,u.oneCell'=ό):
  Calls prog 196 #[γ R,θ x.toArray] w λe w'=>e= .returned (.tuple #[θ c.toArray,ό,ι 0])/\(∃I d,qN 13 327 253 w' R A room ((first+1)%room) (T++[x]) I J d H ((css.set first Γa).set (((first+1)%room+T.length)%room) x))/\jt (RgB R A) w w':=
 (ZG w R A room first (c::T) O J N H css h x ad ό (Ϫ ab)).mono λe w' ⟨ae,f,q,d,cs,aa,⟨I,ac⟩,a,M,U,Y⟩=>by
  injection M with M h4
  subst M U Y h4;exact⟨aa,⟨I,d,ac⟩,a⟩
def Ag (c:List Value) (h:c.length=13): ∃a0 a1 a2 a3 a4 a5 a6 a7 a8 a9 a10 a11 a12,c=[a0,a1,a2,a3,a4,a5,a6,a7,a8,a9,a10,a11,a12]:=by
 match c,h with
 | [a0,a1,a2,a3,a4,a5,a6,a7,a8,a9,a10,a11,a12],_=>exact⟨a0,a1,a2,a3,a4,a5,a6,a7,a8,a9,a10,a11,a12,rfl⟩
def zI {w':World} {e m:Nat} (h:w.ownsRow base e n v m xs) (a:jt S w w') (I: ∀b,base<=b-> ¬S b):w'.ownsRow base e n v m xs:=by
 obtain⟨d,H⟩:=h;refine⟨d, ?_⟩;rcases H with h | ⟨b,cap,cur,e1,hb,hg,rest⟩
 ·exact ϑ h
 ·exact ϕ ⟨b,cap,cur,e1,hb,a.blk hg (I b hb),rest⟩
def vV {e size b:Nat} (h:w.ownsRow base e size v n xs) (d:v.ownBlock=ϊ b):base<=b:=by
 rcases h.2 with ⟨rfl,_⟩ | ⟨g,cap,cur,rfl,H,_⟩
 ·cases d
 ·obtain rfl:g=b:=by injection d
  exact H
def zA {e size:Nat} (h:w.ownsRow base e size v n xs): ∃oa cap,v= δ oa n cap:=by
 rcases h.2 with ⟨rfl,d⟩ | ⟨g,cap,cur,rfl,_⟩
 ·exact⟨ϋ,0,by rw[d]⟩
 ·exact⟨_,cap,rfl⟩
def IN (w:World) (R A room first:Nat) (q:List (List Value)) (M N I J:Int) (css:List (List Value)) (h:qN 13 327 253 w R A room first q M N I J css):
  Calls prog 180 #[γ R] w λe w'=> ∃v,e= .returned v/\w'.ownsRow w.heap.size 253 13 v q.length q.flatten/\(∃first' cg' css',qN 13 327 253 w' R A room first' [] M N I cg' css')/\jt (RgB R A) w w':=by
 obtain⟨aO,aP,aQ,aR,aS⟩:=info_parts (P:=prog) (e:=253) (z:= Γa) (size:=13) (bytes:=120) ξ;have aA:=κ h;have aW:R<w.heap.size:=qn h.ring;have aV:A<w.heap.size:=qn h.row;have bc:w.cell? ⟨R,2,ϋ⟩=ϊ (ι q.length):=qm h.ring 2 rfl;have ba:(q.length:Int)<=8:=by have:=h.fits;have:=h.pos.2;omega
 have aG:=κ h.qall;clear h
 go_enter func180,ntmps180
 go_wp2
 go_loopw [3,8] (λu am wr=> ∃(j f:Nat) (cs:List (List Value)),j<=q.length/\am= ι j/\(∃ax aw aq,u= δ ax aw aq)/\wr.ownsRow w.heap.size 253 13 u j (q.take j).flatten/\qN 13 327 253 wr R A room f (q.drop j) M N I J cs/\jt (RgB R A) w wr) (λ_ am _=>q.length-(intOf am).toNat)
 case atStart=>exact⟨0,first,css,τ,rfl,⟨_,_,_,rfl⟩,World.ownsRow_nil w _ _ _,aA.o,jt.refl _ _⟩
 case round=>
  obtain⟨j,f,cs,aY,rfl,⟨ax,aw,aq,rfl⟩,d,av,au⟩:=hrel;have an:=κ d;have H:=κ av;have ah:=κ au;clear d av au;by_cases hlt:j<q.length
  ·have aj:q.drop j=q[j]::q.drop (j+1):=F8 hlt;have al:q.take (j+1)=q.take j++[q[j]]:=by rw[A9,ϖ hlt];rfl
   have ag:=aG.o q[j] (ϡ hlt);have aZ:(j:Int)<(q.length:Int):=by omega
   obtain⟨c,aI⟩: ∃c,Hid (c=q[j]):=⟨_,κ rfl⟩;rw[<-aI.o] at aj al ag;have aD:=κ (aj▸H.o);have aE:=κ al;have aX:c.toArray.size=13:=by simpa using ag.1
   clear aj al H;obtain⟨a0,U,ac,a3,a4,a5,ad,ae,af,a9,Y,aa,ab,rfl⟩:=Ag c ag.1
   go_wp2_with (first | (go_at_call 238;(go_call DK wr R A room f [a0,U,ac,a3,a4,a5,ad,ae,af,a9,Y,aa,ab] (q.drop (j+1)) M N I J cs aD.o as e w5 ⟨rfl,ar,a5⟩;have aB:=κ ar;have ay:=κ a5;have O:=κ (zI an.o a5 (λb ai e=>by rcases e with e | e<;>omega));have aH:Hid (w.heap.size<=w5.heap.size):=κ (Ϙ ah.o.size a5.size);clear ar a5)) | (at_builtin;refine wpList_append_own_at _ rfl (.tmp 10) (.tmp 13) 325 rfl w.heap.size 253 aO (Γa) 13 120 underlying325 aP aQ aR aS rfl ζ _ j (q.take j).flatten rfl (zI O.o (jt.of_more X8) (λb _ e=>e)) ⟨w5.heap.size,0,ϋ⟩ 1 1 [a0,U,ac,a3,a4,a5,ad,ae,af,a9,Y,aa,ab] rfl rfl (λi u aL=>by have:=xy (cs:=[a0,U,ac,a3,a4,a5,ad,ae,af,a9,Y,aa,ab]) (t:=253) (qj w5 (.cells #[a0,U,ac,a3,a4,a5,ad,ae,af,a9,Y,aa,ab] 253)) i u aL;rw[Addr.add_mid];exact this) ag.2 (by unfold maxLen;omega) τ (by have:=aH.o;simp;omega) ?_;intro be w6 d ak aJ aM;have aF:=κ d;have az:Hid (jt (RgB R A) w w6):=κ (((ah.o.trans ay.o).alc _).grown ak (λb ai=>vV O.o ai));have aC:Hid (qN 13 327 253 w6 R A room ((f+1)%room) (q.drop (j+1)) M N I J (cs.set f Γa)):=κ ((aB.o.more X8).away (jt.of_grown ak) (λe=>by have:=vV O.o e;omega) (λe=>by have:=vV O.o e;omega));obtain⟨bb,aT,rfl⟩:=zA d;clear d ak aJ aM))
   go_roundw
   case rel=>exact⟨j+1,(f+1)%room,_,τ,by go_num,⟨_,_,_,rfl⟩,by rw[aE.o,M4];simpa using aF.o,aC.o,az.o⟩
   case measure=>simp[intOf];omega
  ·obtain rfl:j=q.length:=by omega
   have bd:wr.cell? ⟨R,7,ϋ⟩=ϊ (ι J):=qm H.o.ring 7 rfl;have aU:wr.frozen? ⟨R,7,ϋ⟩=ύ:=yw H.o.ring 7;go_wp2;go_ret;have aN:q.drop q.length=[]:=by simp
   have aK:q.take q.length=q:=by simp
   have ap:=H.o;have ao:=an.o;rw[aN] at ap;rw[aK] at ao;exact⟨_,rfl,zI ao ((jt.refl (λb=>b=R) _).set rfl _) (λb ai e=>by omega),⟨_,_,_,ap.drained _⟩,ah.o.set (ϑ rfl) _⟩
def idV (c:List Value):Value:=match c with | .int .i64 n::_=> .int .i64 n | _=> .int .i64 0
def idN (c:List Value):Int:=match c with | .int .i64 n::_=>n | _=>0
def YB {e:Nat} (h:w.ownsRow base e n v q.length q.flatten) (J: ∀c∈q,c.length=n):
  ∃oa cap,v= δ oa q.length cap/\ ∀j,j<q.length-> ∃b,oa=ϊ ⟨b,0,ϋ⟩/\b<w.heap.size/\ ∀w',ql w w'->w'.rangeAt b (j* n) (q.getD j []):=by
 obtain⟨Y,O⟩:=h;rcases O with ⟨rfl,N⟩ | ⟨g,cap,cur,rfl,aa,I,af,ac,ad,U⟩
 ·exact⟨ϋ,0,by rw[N],λj d=>by omega⟩
 ·refine⟨_,cap,rfl,λj d=>⟨g,rfl,lt_of_block I,λw' m i u M=> ?_⟩⟩;have ab:(q.getD j []).length=n:=by
   rw[ϒ,ϖ d];exact J _ (ϡ d)
  have hi:i<n:=by have:=(ϟ.1 M).1;omega
  have ae:j* n+n<=q.length* n:=by
   have:(j+1)* n<=q.length* n:=A8 n d;rw[G4,O2] at this;exact this
  have H:=Wr q j i J d hi;rw[<-U,ο,ϐ τ] at H;rw[cell_of_row w' g _ cur e (0,0) (qq m I),<-M,<-H];simp
def Fl (i:Int) (c:List Value) (d:c.length=12) (w:World):Calls prog 181 #[θ (ι i::c).toArray] w λe w'=>e= .returned (ι i)/\ql w w':=by
 obtain⟨a0,H,N,a3,a4,a5,O,U,Y,a9,I,J,M,h⟩:=Ag (ι i::c) (by simp[d]);obtain⟨rfl,rfl⟩:a0= ι i/\c=[H,N,a3,a4,a5,O,U,Y,a9,I,J,M]:=by
  injection h with h1 h2
  exact⟨h1.symm,h2⟩
 clear h d
 go_enter func181,ntmps181
 go_wp2;go_ret;exact⟨rfl,ρ⟩
def Ψ6 (h:P:=by
 obtain⟨aK,hi,aH,aI,aJ⟩:=info_parts (P:=prog) (e:=3) (z:= ι 0) (size:=1) (bytes:=8) ξ;obtain⟨aQ,cap,rfl,aq⟩:=YB row (λc d=>by obtain⟨i,r,rfl,J⟩:=aa c d;simp[J]);have az:=κ aq;have ay:=κ aa;have aB:=κ ai;clear row aq aa ai
 go_enter Ξa,Ξb
 go_wp2
 go_loopw [5,10] (λu ae wr=> ∃j:Nat,j<=q.length/\ae= ι j/\(∃av au ah,u= δ av au ah)/\wr.ownsRow w.heap.size 3 1 u ((q.take j).map idN).length (((q.take j).map idN).map (Value.int .i64))/\ql w wr) (λ_ ae _=>q.length-(intOf ae).toNat)
 case atStart=>exact⟨0,τ,rfl,⟨_,_,_,rfl⟩,World.ownsRow_nil w _ _ _,ql.refl _⟩
 case round=>
  obtain⟨j,aM,rfl,⟨av,au,ah,rfl⟩,ap,ao⟩:=hrel;have M:=κ ap;have I:=κ ao;clear ap ao;by_cases hlt:j<q.length
  ·have aO:(j:Int)<(q.length:Int):=by omega
   have ac:(q.take (j+1)).map idN=(q.take j).map idN++[idN q[j]]:=by rw[A9,ϖ hlt,ϻ];rfl
   obtain⟨b,rfl,aL,ak⟩:=az.o j hlt;have an:q.getD j []=q[j]:=by rw[ϒ,ϖ hlt];rfl
   have H:=κ (ak wr I.o);rw[an] at H;obtain⟨id,r,ab,J⟩:=ay.o q[j] (ϡ hlt);rw[ab] at ac H;have aA:Hid ((q.take (j+1)).map idN=(q.take j).map idN++[id]):=κ ac;have ad:=aB.o q[j] (ϡ hlt);rw[ab] at ad;obtain⟨c,d⟩: ∃c,c= ι id::r:=⟨_,rfl⟩;have O:=Ξc id r J;rw[<-d] at H ad O;have aj:c.length=(Ξd:Nat):=by rw[d];simp[J]
   have U:c.toArray.size=(Ξd:Nat):=by simpa using aj
   have ax:=κ O;clear d O;clear an ak ab ac;have c1:(((q.take j).map idN).length+[id].length)* 8<=140737488355328:=(by simp;omega)
   go_wp2_with (first | (refine yL (.load (Ξe:Nat) (.tmp 12)) rfl ?_;refine wpList_load_mid rfl (Ξe:Nat) (.tmp 12) rfl b (j* (Ξd:Nat)) rfl c _ H.o Ξf rfl (by rw[aj];kernel_rfl) ?_) | (refine yL (.store (Ξe:Nat) (.tmp 7) (.tmp 13)) rfl ?_;refine xW rfl (Ξe:Nat) (.tmp 7) (.tmp 13) rfl wr.heap.size (Ξe:Nat) _ c.toArray (qj wr _) rfl rfl (by rw[U];kernel_rfl) (by rw[U];rfl) (all_oneCell_toArray ad) ?_;have aw:=κ (jY (qj wr (.cells Ξg (Ξe:Nat))) c.toArray)) | (refine yL (.load (Ξe:Nat) (.tmp 7)) rfl ?_;refine vO rfl (Ξe:Nat) (.tmp 7) rfl wr.heap.size (Ξe:Nat) c.toArray _ aw.o rfl Ξf rfl (by rw[U];kernel_rfl) ?_) | (refine(ax.o _).mono ?_;rintro e w1 ⟨rfl,ar⟩;have N:Hid (ql wr w1):=κ (((EC _ _ _).to_more X8 (λk e=>by rw[e];exact ϔ _)).trans ar);clear ar) | (at_builtin;refine xr _ rfl (.tmp 14) (.tmp 18) 107 rfl w.heap.size 3 aK (ι 0) 8 underlying107 hi aH aI aJ rfl _ .i64 ((q.take j).map idN) rfl (zI M.o (S:=λ_=>False) ((jt.of_more N.o).alc _) (λ_ _ h=>h)) _ [id] rfl (SlI.lit .i64 w1 [id] 3 _ 1 _ η rfl rfl η) c1 ζ (Ϙ (I.o.trans N.o).size X8.size) ?_;intro aR w2 Y am;have aD:=κ Y;have aC:Hid (ql w w2):=κ ((jt.of_more (S:=λ_=>False) ((I.o.trans N.o).al _)).grown am (λk aE=>vV M.o aE) |>.to_more (ql.refl _) (λk e=>e.elim));obtain⟨o2,c2,rfl⟩:=zA Y;clear Y am))
   go_roundw
   case rel=>exact⟨j+1,τ,by go_num,⟨_,_,_,rfl⟩,by rw[aA.o];have ag:=aD.o;have aF:((q.take j).map idN++[id]).length=j+1:=(by simp;omega);(rw[aF] at ag ⊢;exact ag),aC.o⟩
   case measure=>simp[intOf];omega
  ·obtain rfl:j=q.length:=by omega
   have aP: ¬(q.length:Int)<(q.length:Int):=by omega
   go_wp2;go_ret;have aG:q.take q.length=q:=by simp
   have af:=M.o;rw[aG] at af;exact⟨⟨_,rfl,by simpa using af⟩,I.o⟩):P:=h
section
open _root_.Go.Proofs.Tryz renaming func179->Ξa,ntmps179->Ξb,underlying253->Ξf
open _root_.Go.Proofs.YtlmllmonabafjaaGreatDoor renaming Fl->Ξc,Ν13->Ξd,Ν253->Ξe,Γa->Ξg
def Nl (w:World) (v:Value) (q:List (List Value)) (base:Nat) (row:w.ownsRow base 253 13 v q.length q.flatten) (aa: ∀c∈q,∃i r,c= ι i::r/\r.length=12) (ai: ∀c∈q,∀u∈c,u.oneCell'=ό) (aN:q.length<=8):
  Calls prog 179 #[v,.func (.func 181) #[] #[]] w λe w'=>(∃v',e= .returned v'/\w'.ownsRow w.heap.size 3 1 v' (q.map idN).length ((q.map idN).map (Value.int .i64)))/\ql w w':=Ψ6
end
end Go.Proofs.YtlmllmonabafjaaGreatDoor
