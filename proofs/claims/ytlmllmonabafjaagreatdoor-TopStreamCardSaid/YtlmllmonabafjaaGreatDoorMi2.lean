/- x -/
import Derived.Test.YtlmllmonabafjaaGreatDoorMi1
import Derived.Lib.SliceRun
namespace Go.Proofs.YtlmllmonabafjaaGreatDoor
open Option renaming some->ϊ,none->ϋ
open Bool renaming true->ό,false->ύ
open Go.Value renaming bool->μ,slice->δ,pointer->π,agg->θ
open Go.IntKind renaming i64->ι,u8->υ,u16->φ,u32->ω,i32->χ,u64->ψ
open _root_.Go.Proofs.Tryz
set_option linter.all false
set_option maxHeartbeats 8000000
open Go.RowKit
set_option maxRecDepth 100000
variable {w:World} {q css:List (List Value)} {xs:List Value} {P:Prop} {α β:Type} {v:Value} {S D:Nat->Prop} {base n room:Nat}
def EN {P:Program} {J:Func} {p u:Tmp} {d G:TypeId} (h:J.results= #[.cell p d,.cell u G]) (tmps:Array Value) (w:World) (g g':Nat) (t t':TypeId) (cs cs':Array Value) (H I:TypeDesc)
  (aa:tmps.getD p undef= γ g) (ac:tmps.getD u undef= γ g') (O:w.heap[g]? =ϊ (.cells cs t (0,0))) (U:w.heap[g']? =ϊ (.cells cs' t' (0,0)))
  (ae:P.underlying d=ϊ H) (M:(match H with | .struct _ | .array _ _=>ό | _=>ύ)=ό) (hi:(P.info? d).map (·.size)=ϊ cs.size)
  (af:P.underlying G=ϊ I) (N:(match I with | .struct _ | .array _ _=>ό | _=>ύ)=ό) (Y:(P.info? G).map (·.size)=ϊ cs'.size):
  (results J tmps).run P w= .ok (.tuple #[θ cs,θ cs']) w:=by
 have ab:tmps[p]?.getD undef= γ g:=by simpa using aa
 have ad:tmps[u]?.getD undef= γ g':=by simpa using ac
 simp[results,h,ab,ad,asAddr,run_loadVar_row w g t d cs (0,0) H O ae M hi,run_loadVar_row w g' t' G cs' (0,0) I U af N Y]
structure RwS where
 src:Int
 sq:Int
 st:Int
 any:Bool
 last:Int
 shift:Int
def shL (s:RwS) (t:Int) (first:Bool):Int:=if s.any then (if first then (s.last+3000-t)%4294967296 else s.shift) else (s.st-t)%4294967296
def Az (H sq st d N:Int) (any first:Bool) (J:Bool) (M q t O:Int) (w:World) (X:Int) (G:shL ⟨H,sq,st,any,d,N⟩ t first=X):
    Calls prog 257 #[θ #[ω H,φ sq,ω st,any,ω d,ω N],θ #[μ J,υ M,φ q,ω t,ω O],first] w
      λe w'=>e= .returned (θ #[μ J,υ M,φ sq,ω ((t+X)%4294967296),ω H,ω X])/\ql w w':=by
  cases any with
  | false=>
    obtain rfl:X=(st-t)%4294967296:=by rw[<-G];rfl
    clear G
    have I:(t+(st-t)%4294967296)%4294967296=(t+(st-t))%4294967296:=by omega
    rw[I]
    clear I
    go_enter func257,ntmps257
    go_wp2
    refine bodyPost_ret (v:= θ #[μ J,υ M,φ sq,ω ((t+(st-t))%4294967296),ω H,ω ((st-t)%4294967296)]) (by simp[results,results257,go_sem]) rfl ?_
    exact⟨rfl,ρ⟩
  | true=>
   cases first with
   | true=>
    obtain rfl:X=(d+3000-t)%4294967296:=by rw[<-G];rfl
    clear G
    have I:(t+(d+3000-t)%4294967296)%4294967296=(t+(d+3000-t))%4294967296:=by omega
    rw[I]
    clear I
    go_enter func257,ntmps257
    go_wp2
    refine bodyPost_ret (v:= θ #[μ J,υ M,φ sq,ω ((t+(d+3000-t))%4294967296),ω H,ω ((d+3000-t)%4294967296)]) (by simp[results,results257,go_sem]) rfl ?_
    exact⟨rfl,ρ⟩
   | false=>
    obtain rfl:X=N:=by rw[<-G];rfl
    clear G
    go_enter func257,ntmps257
    go_wp2
    refine bodyPost_ret (v:= θ #[μ J,υ M,φ sq,ω ((t+X)%4294967296),ω H,ω X]) (by simp[results,results257,go_sem]) rfl ?_
    exact⟨rfl,ρ⟩
def AI (d sq st N U:Int) (any first:Bool) (I:Bool) (J q t an:Int) (w:World) (X:Int) (ai:shL ⟨d,sq,st,any,N,U⟩ t first=X) (Z:Int) (aj:(t+X)%4294967296=Z) (Q:Int) (ah:(sq+1)%65536=Q):
  Calls prog 201 #[θ #[ω d,φ sq,ω st,any,ω N,ω U],θ #[μ I,υ J,φ q,ω t,ω an],first] w
   λe w'=>e= .returned (.tuple #[θ #[ω d,φ Q,ω st,ό,ω Z,ω X],θ #[μ I,υ J,φ sq,ω Z,ω d]])/\ql w w':=by
 have Y:=λw=>Az d sq st N U any first I J q t an w X ai
 rw[aj] at Y;have Y:=κ Y;have af:=κ ah;clear ai aj ah
 go_enter func201,ntmps201
 go_wp2_with (refine(Y.o _).mono ?_;rintro e w1 ⟨rfl,O⟩;have G:Hid (w1.heap[w.heap.size]? =ϊ (.cells #[ω d,φ sq,ω st,any,ω N,ω U] 149 (0,0))):=κ (qq O (by repeat (first | exact qC η | refine qs ?_ _)));have ac:Hid (w1.heap[w.heap.size+2]? =ϊ (.cells #[ω 0,φ 0,ω 0,ύ,ω 0,ω 0] 149 (0,0))):=κ (qq O (by repeat (first | exact qC η | refine qs ?_ _)));have aa:Hid (w1.heap[w.heap.size+3]? =ϊ (.cells #[μ ύ,υ 0,φ 0,ω 0,ω 0] 60 (0,0))):=κ (qq O (by repeat (first | exact qC η | refine qs ?_ _)));have ag:Hid (ql w w1):=κ ((((ql.refl w).al _ |>.al _ |>.al _ |>.al _)).trans O);clear O;have aE:w.heap.size<w1.heap.size:=qn G.o;have aA:w1.cell? ⟨w.heap.size,1,ϋ⟩=ϊ (φ sq):=qm G.o 1 rfl;have aB:w1.cell? ⟨w.heap.size,3,ϋ⟩=ϊ (μ any):=qm G.o 3 rfl;have aC:w1.cell? ⟨w.heap.size,4,ϋ⟩=ϊ (ω N):=qm G.o 4 rfl;have aD:w1.cell? ⟨w.heap.size,5,ϋ⟩=ϊ (ω U):=qm G.o 5 rfl;have av:w1.frozen? ⟨w.heap.size,1,ϋ⟩=ύ:=yw G.o 1;have aw:w1.frozen? ⟨w.heap.size,3,ϋ⟩=ύ:=yw G.o 3;have ax:w1.frozen? ⟨w.heap.size,4,ϋ⟩=ύ:=yw G.o 4;have ay:w1.frozen? ⟨w.heap.size,5,ϋ⟩=ύ:=yw G.o 5)
 have am:IntKind.u16.wrap (sq+1)=Q:=af.o;rw[am];obtain⟨W1,M⟩:=ν ((((((w1.setCell ⟨w.heap.size,1,ϋ⟩ (φ Q)).setCell ⟨w.heap.size,3,ϋ⟩ (μ ό)).setCell ⟨w.heap.size,4,ϋ⟩ (ω Z)).setCell ⟨w.heap.size,5,ϋ⟩ (ω X)).alloc (.cells #[μ I,υ J,φ sq,ω Z,ω d,ω X] 429)));have ar:Hid (ql w W1):=κ (by rw[<-M];exact((((ag.o.st (ϕ _) _).st (ϕ _) _).st (ϕ _) _).st (ϕ _) _).al _);have au:Hid (W1.heap[w.heap.size]? =ϊ (.cells #[ω d,φ Q,ω st,ό,ω Z,ω X] 149 (0,0))):=κ (by rw[<-M];exact qs (qB (qp (qp (qp (qp G.o 1 _) 3 _) 4 _) 5 _) rfl) _);have ad:Hid (W1.heap[w.heap.size+2]? =ϊ (.cells #[ω 0,φ 0,ω 0,ύ,ω 0,ω 0] 149 (0,0))):=κ (by rw[<-M];exact qs (qo (qo (qo (qo ac.o ⟨w.heap.size,1,ϋ⟩ _ (by show w.heap.size+2≠w.heap.size;omega)) ⟨w.heap.size,3,ϋ⟩ _ (by show w.heap.size+2≠w.heap.size;omega)) ⟨w.heap.size,4,ϋ⟩ _ (by show w.heap.size+2≠w.heap.size;omega)) ⟨w.heap.size,5,ϋ⟩ _ (by show w.heap.size+2≠w.heap.size;omega)) _);have ae:Hid (W1.heap[w.heap.size+3]? =ϊ (.cells #[μ ύ,υ 0,φ 0,ω 0,ω 0] 60 (0,0))):=κ (by rw[<-M];exact qs (qo (qo (qo (qo aa.o ⟨w.heap.size,1,ϋ⟩ _ (by show w.heap.size+3≠w.heap.size;omega)) ⟨w.heap.size,3,ϋ⟩ _ (by show w.heap.size+3≠w.heap.size;omega)) ⟨w.heap.size,4,ϋ⟩ _ (by show w.heap.size+3≠w.heap.size;omega)) ⟨w.heap.size,5,ϋ⟩ _ (by show w.heap.size+3≠w.heap.size;omega)) _);have ao:Hid (W1.heap[w1.heap.size]? =ϊ (.cells #[μ I,υ J,φ sq,ω Z,ω d,ω X] 429 (0,0))):=κ (by rw[<-M];exact qC η);have aF:w.heap.size+3<w1.heap.size:=qn aa.o;rw[M];clear M ag G ac aa aA aB aC aD av aw ax ay am af;have ap: ∀x:qz (λb=>b=w.heap.size+2∨b=w.heap.size+3) W1,x.w'.rangeAt w.heap.size 0 [ω d,φ Q,ω st,ό,ω Z,ω X]:=λx=>xy (x.h.blk au.o τ)
 have aq: ∀x:qz (λb=>b=w.heap.size+2∨b=w.heap.size+3) W1,x.w'.rangeAt w1.heap.size 0 [μ I,υ J,φ sq,ω Z,ω d]:=λx=>by
  have:=xy (cs:=[μ I,υ J,φ sq,ω Z,ω d,ω X]) (x.h.blk ao.o τ);intro j v ak;refine this j v ?_;have az:=(Ϛ.1 ak).1;rw[<-ak];exact ϻ (l₂:=[ω X]) az
 refine QN (λb=>b=w.heap.size+2∨b=w.heap.size+3) W1 4 5 [3,4] ?_;refine jh rfl rfl (qi σ) 149 (.tmp 3) rfl w.heap.size 0 rfl [ω d,φ Q,ω st,ό,ω Z,ω X] _ (λw' ab=>by obtain⟨x,rfl⟩:=ab;exact ap x) underlying149 rfl ξ ?_;intro K H;go_simp;refine H _ ?_;clear H K
 refine Qs1 ?_
 refine jh rfl rfl (qi σ) 60 (.tmp 26) rfl w1.heap.size 0 rfl [μ I,υ J,φ sq,ω Z,ω d] _ (λw' ab=>by obtain⟨x,rfl⟩:=ab;exact aq x) underlying60 rfl ξ ?_;intro K H;go_simp;refine H _ ?_;clear H K;refine jR rfl rfl ?_;intro K H;refine jr 149 (.tmp 6) (.tmp 25) rfl (w.heap.size+2) 149 _ #[ω d,φ Q,ω st,ό,ω Z,ω X] rfl rfl (qr ad.o 1) ξ rfl (all_oneCell_toArray W5) ?_;refine⟨qi (((jt.refl (λb=>b=w.heap.size+2∨b=w.heap.size+3) W1).drewN 1).row (g:=w.heap.size+2) (ϒ rfl) _), ?_⟩;go_simp;refine H _ _ ?_;clear H K;refine zY rfl rfl ζ ?_;intro K H;refine jr 60 (.tmp 7) (.tmp 27) rfl (w.heap.size+3) 60 _ #[μ I,υ J,φ sq,ω Z,ω d] rfl rfl (qS (qr ae.o 1) _ τ) ξ rfl (all_oneCell_toArray W5) ?_;refine⟨trivial, ?_⟩;go_simp;refine H _ _ ?_;clear H K;refine qA ?_;go_wp2;refine bodyPost_ret (v:= .tuple #[θ #[ω d,φ Q,ω st,ό,ω Z,ω X],θ #[μ I,υ J,φ sq,ω Z,ω d]]) (EN results201 _ _ (w.heap.size+2) (w.heap.size+3) 149 60 #[ω d,φ Q,ω st,ό,ω Z,ω X] #[μ I,υ J,φ sq,ω Z,ω d] _ _ rfl rfl (qS (jY (qr ad.o 1) _) _ τ) (jY (qS (qr ae.o 1) _ τ) _) underlying149 rfl ξ underlying60 rfl ξ) rfl ?_;exact⟨rfl,(EC _ _ _).to_more ((EC _ _ _).to_more (ar.o.dr 1) (λk e=>by rw[e];exact E8 _ _)) (λk e=>by rw[e];exact E8 _ _)⟩
structure ItS where
 id:Int
 layer:Int
 key:Bool
 pk:Pk
structure LnS where
 room:Nat
 A:List ItS
 B:List (ItS×Bool)
 C:List (Int×List Int)
 W:List (Int×List Int)
 wanted:Bool
 cur:Int
 tgt:Int
 rw:RwS
 most:Int
 row:Int
 gone:Bool
def Vd (room:Nat) (most src sq st:Int):LnS:=⟨room,[],[],[],[],ύ,0,0,⟨src,sq,st,ύ,0,0⟩,most,0,ύ⟩
def yX (s:LnS) (x:ItS):LnS×Int×Bool:=if s.A.length<s.room then ({s with A:=s.A++[x]},0,ύ) else ({s with A:=s.A.tail++[x]},(s.A.head?.map (·.id)).getD 0,ό)
def xp (s:LnS) (x:ItS):LnS×Int×Bool×Int:=
 if (jj x.layer&&jJ x.pk)=ύ then (s,0,ύ,1) else if s.gone then (s,0,ύ,7) else if s.wanted=ύ then (s,0,ύ,5) else ((yX s x).1,(yX s x).2.1,(yX s x).2.2,0)
def xJ (cur tgt layer:Int) (key:Bool):Int×Int×Bool:=
 if layer=cur then (cur,0,ύ) else if layer=tgt then (if key then (layer,0,ό) else (cur,5,ύ)) else (cur,4,ύ)
def vC (s:LnS) (n:Int):Bool:=if n=1 then decide (0<s.A.length)&&decide (¬s.B.length=s.room) else if n=2 then decide (0<s.B.length) else if n=3 then decide (0<s.C.length) else ύ
def jf (s:LnS):LnS×Int×Int×Bool:=
 if vC s 1=ύ then (s,0,0,ύ) else
 match s.A with
 | []=>(s,0,0,ύ)
 | x::A=>({s with A:=A,cur:=(xJ s.cur s.tgt x.layer x.key).1,B:=if (xJ s.cur s.tgt x.layer x.key).2.1=0 then s.B++[(x,(xJ s.cur s.tgt x.layer x.key).2.2)] else s.B},x.id,(xJ s.cur s.tgt x.layer x.key).2.1,ό)
def kY (r:RwS) (p:Pk) (first:Bool):Pk:={p with sq:=r.sq,st:=(p.st+shL r p.st first)%4294967296,sc:=r.src}
def ul (r:RwS) (p:Pk) (first:Bool):RwS:=⟨r.src,(r.sq+1)%65536,r.st,ό,(p.st+shL r p.st first)%4294967296,shL r p.st first⟩
def NJ (s:LnS) (o:Int×List Int):LnS×Int×Bool:=if s.C.length<s.room then ({s with C:=s.C++[o]},0,ύ) else ({s with C:=s.C.tail++[o]},(s.C.head?.map (·.1)).getD 0,ό)
def qY (s:LnS):LnS×Int×Bool×Bool:=
 match s.B with
 | []=>(s,0,ύ,ύ)
 | (x,f)::B=>((NJ {s with B:=B,rw:=ul s.rw x.pk f} (x.id,pkB (kY s.rw x.pk f))).1,(NJ {s with B:=B,rw:=ul s.rw x.pk f} (x.id,pkB (kY s.rw x.pk f))).2.1,(NJ {s with B:=B,rw:=ul s.rw x.pk f} (x.id,pkB (kY s.rw x.pk f))).2.2,ό)
def V2 (s:LnS) (acc:Bool):Int×Bool×Bool:=if s.gone then (s.row,ό,ύ) else if acc then (0,ύ,ύ) else (s.row+1,s.row+1==s.most,s.row+1==s.most)
def qX (s:LnS) (acc:Bool):LnS×Int×Int×Bool:=
 match s.C with
 | []=>(s,0,0,ύ)
 | o::C=>
  if (V2 s acc).2.2 then ({s with A:=[],B:=[],C:=[],W:=if acc then s.W++[o] else s.W,row:=(V2 s acc).1,gone:=(V2 s acc).2.1},o.1,7,ό)
  else ({s with C:=if acc then C else o::C,W:=if acc then s.W++[o] else s.W,row:=(V2 s acc).1,gone:=(V2 s acc).2.1},o.1,if acc then 1 else 0,ό)
def jO (s:LnS) (n:Int):LnS×Int:=
 if jj n=ύ then (s,1) else if s.gone then (s,7) else ({s with wanted:=ό,cur:=if s.wanted then s.cur else -1,tgt:=n},0)
def zb (p:α->β->Prop):List α->List β->Prop
 | [],[]=>True
 | a::l,b::m=>p a b/\zb p l m
 | _,_=>False
section
variable {α β:Type} {p p':α->β->Prop}
def zb.len: ∀{l:List α} {m:List β},zb p l m->l.length=m.length
 | [],[],_=>rfl
 | _::_,_::_,h=>by simp[zb.len h.2]
 | [],_::_,h=>h.elim
 | _::_,[],h=>h.elim
def zb.mono (k: ∀a b,p a b->p' a b): ∀{l:List α} {m:List β},zb p l m->zb p' l m
 | [],[],_=>trivial
 | _::_,_::_,h=>⟨k _ _ h.1,zb.mono k h.2⟩
 | [],_::_,h=>h.elim
 | _::_,[],h=>h.elim
def zb.snoc: ∀{l:List α} {m:List β} {a:α} {b:β},zb p l m->p a b->zb p (l++[a]) (m++[b])
 | [],[],_,_,_,k=>⟨k,trivial⟩
 | _::_,_::_,_,_,h,k=>⟨h.1,zb.snoc h.2 k⟩
 | [],_::_,_,_,h,_=>h.elim
 | _::_,[],_,_,h,_=>h.elim
def zb.uncons {l:List α} {b:β} {m:List β} (h:zb p l (b::m)): ∃a l',l=a::l'/\p a b/\zb p l' m:=by
 cases l with
 | nil=>exact h.elim
 | cons a l'=>exact⟨a,l',rfl,h.1,h.2⟩
def zb.nil_r {l:List α} (h:zb p l ([]:List β)):l=[]:=by
 cases l with
 | nil=>rfl
 | cons a l'=>exact h.elim
def zb.mem {l:List α} {m:List β} (h:zb p l m): ∀a∈l,∃b∈m,p a b:=by
 induction l generalizing m with
 | nil=>intro a d;simp at d
 | cons c l ih=>
  cases m with
  | nil=>exact h.elim
  | cons b m=>
   intro a d;rcases ϰ.1 d with rfl | d
   ·exact⟨b,η,h.1⟩
   ·obtain⟨G,H,I⟩:=ih h.2 a d;exact⟨G,by simp[H],I⟩
end
def itC (x:ItS) (vs ve vp:Value):List Value:=[.int .i64 x.id,.int .i64 x.layer,.bool x.key,.bool x.pk.mr,.int .u8 x.pk.ty,.int .u16 x.pk.sq,.int .u32 x.pk.st,.int .u32 x.pk.sc,vs,.bool x.pk.has,.int .u16 x.pk.pr,ve,vp]
def RIt:qL ItS:=λw cs x=> ∃vs ve vp,cs=itC x vs ve vp/\PkS w vs ve vp x.pk/\uf x.pk/\jJ x.pk=ό
def RCh:qL (ItS×Bool):=λw cs x=> ∃vs ve vp,cs=itC x.1 vs ve vp++[.bool x.2]/\PkS w vs ve vp x.1.pk/\uf x.1.pk/\jJ x.1.pk=ό
def ROu:qL (Int×List Int):=λw cs o=> ∃v,cs=[.int .i64 o.1,v]/\SlI .u8 w v o.2/\Byt o.2/\o.2.length<=200
def Ff:QQ ROu:=λ_ _ _ _ m ⟨v,d,G,H⟩=>⟨v,d,G.keep m,H⟩
def jw.chosen {c:List Value} {x:ItS} (f:Bool) (h:jw RIt D w c x):jw RCh D w (c++[μ f]) (x,f):=λw' a=>by
 obtain⟨J,I,vp,rfl,d,G,H⟩:=h w' a;exact⟨J,I,vp,rfl,d,G,H⟩
def RgR (n tr te:Nat) (R:qL α) (D:Nat->Prop) (w:World) (r a room:Nat) (l:List α):Prop:=
 ∃f q ci co cd cg css,qN n tr te w r a room f q ci co cd cg css/\zb (jw R D w) q l
section
variable {α:Type} {n tr te:Nat} {R:qL α} {D D':Nat->Prop} {w w':World} {r a room:Nat} {l:List α}
def RgR.fit (h:RgR n tr te R D w r a room l):l.length<=room/\1<=room/\room<=8/\r<w.heap.size/\a<w.heap.size:=by
 obtain⟨f,q,J,M,H,I,css,d,G⟩:=h;have:=d.fits;have:=G.len;have:=d.pos;exact⟨τ,τ,τ,qn d.ring,qn d.row⟩
def RgR.step (h:RgR n tr te R D w r a room l) (k:jt S w w') (Y: ¬S r) (U: ¬S a) (N: ∀b,S b->D b) (O: ∀b,D' b->D b∨w'.heap.size<=b):RgR n tr te R D' w' r a room l:=by
 obtain⟨f,q,H,I,d,G,css,J,M⟩:=h;exact⟨f,q,H,I,d,G,css,J.away k Y U,M.mono λc y aa=>(aa.step (k.mono N)).other O⟩
end
def Γj (x:ItS) (a:Option Addr) (b:Nat) (c:Option Addr) (d:Nat) (e:Option Addr) (f:Nat):Mm:=.o
instance (x:ItS) (a:Option Addr) (b:Nat) (c:Option Addr) (d:Nat) (e:Option Addr) (f:Nat):CoeDep Mm (Γj x a b c d e f) (List Value):=⟨[ι x.id,ι x.layer,μ x.key,μ x.pk.mr,υ x.pk.ty,φ x.pk.sq,ω x.pk.st,ω x.pk.sc,δ a x.pk.ss.length b,μ x.pk.has,φ x.pk.pr,δ c x.pk.ex.length d,δ e x.pk.pl.length f]⟩
instance (x:ItS) (a:Option Addr) (b:Nat) (c:Option Addr) (d:Nat) (e:Option Addr) (f:Nat):CoeDep Mm (Γj x a b c d e f) (Array Value):=⟨((Γj x a b c d e f):List Value).toArray⟩
instance (x:ItS) (a:Option Addr) (b:Nat) (c:Option Addr) (d:Nat) (e:Option Addr) (f:Nat):CoeDep Mm (Γj x a b c d e f) Value:=⟨θ (Γj x a b c d e f)⟩
def Γk (x:ItS) (a:Option Addr) (b:Nat) (c:Option Addr) (d:Nat) (e:Option Addr) (f:Nat) (g:Bool):Mm:=.o
instance (x:ItS) (a:Option Addr) (b:Nat) (c:Option Addr) (d:Nat) (e:Option Addr) (f:Nat) (g:Bool):CoeDep Mm (Γk x a b c d e f g) (List Value):=⟨[ι x.id,ι x.layer,μ x.key,μ x.pk.mr,υ x.pk.ty,φ x.pk.sq,ω x.pk.st,ω x.pk.sc,δ a x.pk.ss.length b,μ x.pk.has,φ x.pk.pr,δ c x.pk.ex.length d,δ e x.pk.pl.length f,μ g]⟩
instance (x:ItS) (a:Option Addr) (b:Nat) (c:Option Addr) (d:Nat) (e:Option Addr) (f:Nat) (g:Bool):CoeDep Mm (Γk x a b c d e f g) (Array Value):=⟨((Γk x a b c d e f g):List Value).toArray⟩
instance (x:ItS) (a:Option Addr) (b:Nat) (c:Option Addr) (d:Nat) (e:Option Addr) (f:Nat) (g:Bool):CoeDep Mm (Γk x a b c d e f g) Value:=⟨θ (Γk x a b c d e f g)⟩
def wQ (v:Value) (l:List Int) (w:World) (h:SlI .u8 w v l) (ak:l.length<=1000000):
  Calls prog 50 #[v] w λe w'=>(∃v',e= .returned v'/\w'.ownsRow w.heap.size 5 1 v' l.length (l.map (Value.int .u8)))/\ql w w':=by
 obtain⟨ai,hi,af,ag,ah⟩:=info_parts (P:=prog) (e:=5) (z:= υ 0) (size:=1) (bytes:=1) ξ;have G:=κ h;obtain⟨aj,cap,rfl,H,I,J,M,d⟩:=h;cases aj with
 | none=>
  obtain rfl:cap=0:=d rfl;obtain rfl:l=[]:=Ϧ τ;clear G H I J M d;have ae:=λw=>Lib.run_eql_slice_nil (P:=prog) w 35 5 ϋ 0 0 0 0 underlying35
  go_enter func50,ntmps50
  go_wp2;go_ret;exact⟨⟨_,rfl,World.ownsRow_nil w _ _ _⟩,ql.refl _⟩
 | some ad=>
  clear H I J M d;have U:(w.alloc (.cells #[] 5)).ownsRow w.heap.size 5 1 (δ (ϊ ⟨w.heap.size,0,ϋ⟩) 0 0) ([]:List Int).length (([]:List Int).map (Value.int .u8)):=World.ownsRow_lit (e:=5) (size:=1) (base:=w.heap.size) w #[] 0 (ϕ _) (by unfold maxLen;omega) rfl;have aa:=κ U;clear U;have ae:=λw=>Lib.run_eql_slice_nil (P:=prog) w 35 5 (ϊ ad) l.length cap 0 0 underlying35
  go_enter func50,ntmps50
  go_wp2_with (at_builtin;refine xr _ rfl (.tmp 5) (.tmp 6) 35 rfl w.heap.size 5 ai (υ 0) 1 underlying35 hi af ag ah rfl _ .u8 [] rfl aa.o _ l rfl (G.o.keep W4) (by simp;omega) ζ (ql.alloc w _).size ?_;intro al w2 O N;have ab:=κ O;have Y:Hid (jt (λb=>(δ (ϊ ⟨w.heap.size,0,ϋ⟩) 0 0).ownBlock=ϊ b) (w.alloc (.cells #[] 5)) w2):=κ (jt.of_grown N);clear O N)
  go_ret;refine⟨⟨_,rfl,by simpa using ab.o⟩, ?_⟩;exact((jt.of_more (S:=λb=>b=w.heap.size) (ql.alloc w _)).trans (Y.o.mono λb ac=>by injection ac with e;exact e.symm)).to_more (ql.refl _) (λk e=>by rw[e];exact ϕ _)
def Ad (v:Value) (l:List Int) (w:World) (h:SlI .u32 w v l) (ak:l.length<=1000000):
  Calls prog 49 #[v] w λe w'=>(∃v',e= .returned v'/\w'.ownsRow w.heap.size 38 1 v' l.length (l.map (Value.int .u32)))/\ql w w':=by
 obtain⟨ai,hi,af,ag,ah⟩:=info_parts (P:=prog) (e:=38) (z:= ω 0) (size:=1) (bytes:=4) ξ;have G:=κ h;obtain⟨aj,cap,rfl,H,I,J,M,d⟩:=h;cases aj with
 | none=>
  obtain rfl:cap=0:=d rfl;obtain rfl:l=[]:=Ϧ τ;clear G H I J M d;have ae:=λw=>Lib.run_eql_slice_nil (P:=prog) w 61 38 ϋ 0 0 0 0 underlying61
  go_enter func49,ntmps49
  go_wp2;go_ret;exact⟨⟨_,rfl,World.ownsRow_nil w _ _ _⟩,ql.refl _⟩
 | some ad=>
  clear H I J M d;have U:(w.alloc (.cells #[] 38)).ownsRow w.heap.size 38 1 (δ (ϊ ⟨w.heap.size,0,ϋ⟩) 0 0) ([]:List Int).length (([]:List Int).map (Value.int .u32)):=World.ownsRow_lit (e:=38) (size:=1) (base:=w.heap.size) w #[] 0 (ϕ _) (by unfold maxLen;omega) rfl;have aa:=κ U;clear U;have ae:=λw=>Lib.run_eql_slice_nil (P:=prog) w 61 38 (ϊ ad) l.length cap 0 0 underlying61
  go_enter func49,ntmps49
  go_wp2_with (at_builtin;refine xr _ rfl (.tmp 5) (.tmp 6) 61 rfl w.heap.size 38 ai (ω 0) 4 underlying61 hi af ag ah rfl _ .u32 [] rfl aa.o _ l rfl (G.o.keep W4) (by simp;omega) ζ (ql.alloc w _).size ?_;intro al w2 O N;have ab:=κ O;have Y:Hid (jt (λb=>(δ (ϊ ⟨w.heap.size,0,ϋ⟩) 0 0).ownBlock=ϊ b) (w.alloc (.cells #[] 38)) w2):=κ (jt.of_grown N);clear O N)
  go_ret;refine⟨⟨_,rfl,by simpa using ab.o⟩, ?_⟩;exact((jt.of_more (S:=λb=>b=w.heap.size) (ql.alloc w _)).trans (Y.o.mono λb ac=>by injection ac with e;exact e.symm)).to_more (ql.refl _) (λk e=>by rw[e];exact ϕ _)
def LN (w:World):(zeroValue 253).run prog w= .ok (Γa) w:=by kernel_rfl
def zsI:(Builtin.zeroCells (Γa:Value).cells 1).toList=Γa:=by kernel_rfl
def zokI:(Γa:List Value).length=13/\ ∀u∈(Γa:List Value),u.oneCell'=ό:=⟨rfl,by simp[Value.oneCell']⟩
def Ψ2 (h:P:=by
 have ak:=κ h;have ah:=h.ofHead;have U:c.toArray.size=(Ξa:Nat):=by simpa using ah.1
 have aA:=h.fst;have aP:(first:Int)<(room:Int):=by have:=h.fst;omega
 have aQ:0<=(first:Int):=by omega
 have aR:=h.pos.1;have aS:=h.pos.2;have aT:((c::T).length:Int)<=8:=by have:=h.fits;have:=h.pos.2;omega
 clear h
 go_enter Ξb,Ξc
 go_wp2;obtain⟨W1,af⟩:=ν (w.alloc (.cells Ξd (Ξe:Nat)));have au:Hid (ql w W1):=κ (by rw[<-af];exact ql.alloc _ _);have J:Hid (qN (Ξa:Nat) (Ξf:Nat) (Ξe:Nat) W1 R A room first (c::T) ad ae ab ac css):=κ (ak.o.more au.o);have ai:Hid (W1.heap[w.heap.size]? =ϊ (.cells Ξd (Ξe:Nat) (0,0))):=κ (by rw[<-af];exact qj w _);have aO:R<w.heap.size:=qn ak.o.ring;have aM:A<w.heap.size:=qn ak.o.row;rw[af];have aB:w.heap.size<W1.heap.size:=qn ai.o;generalize aU:w.heap.size=rc at *;clear af;have Y: ∀x:qt W1,x.w'.cell? ⟨R,0,ϋ⟩=ϊ (δ (ϊ ⟨A,0,ϋ⟩) room room):=λx=>x.cell (qn J.o.ring) (qm J.o.ring 0 rfl)
 have aa: ∀x:qt W1,x.w'.cell? ⟨R,1,ϋ⟩=ϊ (ι first):=λx=>x.cell (qn J.o.ring) (qm J.o.ring 1 rfl)
 refine Qn W1 11 12 [10,11] ?_
 refine Qq9 ?_
 have ar: ∀x:qt W1,x.w'.rangeAt A (first* (Ξa:Nat)) c:=λx=>by have:=(J.o.more x.h).range aA;rw[J.o.head] at this;exact this
 refine jh rfl rfl (qk ρ) (Ξe:Nat) (.tmp 12) rfl A (first* (Ξa:Nat)) rfl c _ (λw' aH=>by obtain⟨x,rfl⟩:=aH;exact ar x) Ξg rfl (by rw[ah.1];kernel_rfl) ?_;intro K d;go_simp;refine d _ ?_;clear d K
 (refine Ql ?_;intro K d)
 refine⟨qk ρ,d _ _ ?_⟩;clear d K;refine zY rfl rfl ζ ?_;intro K d;refine jr (Ξe:Nat) (.tmp 3) (.tmp 13) rfl W1.heap.size (Ξe:Nat) _ c.toArray rfl rfl (qj _ _) (by rw[U];kernel_rfl) (by rw[U];rfl) (all_oneCell_toArray ah.2) ?_;refine⟨trivial, ?_⟩;go_simp;refine d _ _ ?_;clear d K;refine qA ?_;obtain⟨W2,ag⟩:=ν (((W1.drewN 1).alloc (.cells Ξd (Ξe:Nat))).setRow W1.heap.size c.toArray);have aw:Hid (W2.heap[W1.heap.size]? =ϊ (.cells c.toArray (Ξe:Nat) (0,0))):=κ (by rw[<-ag];exact jY (qj _ _) _);have am:Hid (ql W1 W2):=κ (by rw[<-ag];exact(EC _ _ _).to_more (((ql.refl W1).dr 1).al _) (λk e=>by rw[e];exact ϕ _));have G:=κ (J.o.more am.o);have ao:=κ (qq am.o ai.o);have aN:R<W1.heap.size:=ϗ τ (Q6 aB);have aL:A<W1.heap.size:=ϗ τ (Q6 aB);rw[ag];generalize W1.heap.size=xc at *;clear ag Y aa ar ai J
 go_wp2_with fail
 have Y: ∀x:qz (λb=>b=A) W2,x.w'.cell? ⟨R,0,ϋ⟩=ϊ (δ (ϊ ⟨A,0,ϋ⟩) room room):=λx=>x.cell (qn G.o.ring) G.o.ne (qm G.o.ring 0 rfl)
 have aa: ∀x:qz (λb=>b=A) W2,x.w'.cell? ⟨R,1,ϋ⟩=ϊ (ι first):=λx=>x.cell (qn G.o.ring) G.o.ne (qm G.o.ring 1 rfl)
 refine QN (λb=>b=A) W2 15 15 [14] ?_
 refine Qq ?_
 refine jR rfl rfl ?_;intro K d;have az:=kW (P:=prog) (W2.drewN 1) (Ξh:Nat) 0 (Ξe:Nat) _ Ξd Ξi Ξj Ξk A (first* (Ξa:Nat)) (room-first) css.flatten.toArray (qr G.o.row 1) (by rw[G.o.size];have:=A7 (Ξa:Nat) (show first+1<=room by omega);simp;omega) Ξl.2;simp only[List.toList_toArray] at az;unfold jn;go_simp;refine⟨qi (((jt.refl (λb=>b=A) W2).drewN 1).row (g:=A) rfl _),d _ _ ?_⟩;clear d K az Y aa;refine qA ?_;obtain⟨H,N⟩:=ν ((W2.drewN 1).setRow A (xQ css.flatten (first* (Ξa:Nat)) Ξd).toArray);have an:Hid (jt (RgB R A) W2 H):=κ (by rw[<-N];exact((jt.refl _ _).drewN 1).row (ϔ rfl) _);have I:Hid (H.heap[R]? =ϊ (.cells (jV A room first (c::T).length ad ae ab ac) (Ξf:Nat) (0,0))):=κ (by rw[<-N];exact qS (qr G.o.ring 1) _ G.o.ne);have av:Hid (H.heap[A]? =ϊ (.cells (css.set first Ξd).flatten.toArray (Ξe:Nat) (0,0))):=κ (by rw[<-N,<-JO css first _ G.o.cl Ξl.1 (by rw[G.o.len];exact aA)];exact jY (qr G.o.row 1) _);have ax:Hid (H.heap[xc]? =ϊ (.cells c.toArray (Ξe:Nat) (0,0))):=κ (by rw[<-N];exact qS (qr aw.o 1) _ τ);have ap:Hid (H.heap[rc]? =ϊ (.cells Ξd (Ξe:Nat) (0,0))):=κ (by rw[<-N];exact qS (qr ao.o 1) _ τ);rw[N];clear N aw ao
 go_wp2_with fail
 have Y: ∀x:qt H,x.w'.cell? ⟨R,0,ϋ⟩=ϊ (δ (ϊ ⟨A,0,ϋ⟩) room room):=λx=>x.cell (qn I.o) (qm I.o 0 rfl)
 have aa: ∀x:qt H,x.w'.cell? ⟨R,1,ϋ⟩=ϊ (ι first):=λx=>x.cell (qn I.o) (qm I.o 1 rfl)
 have aF:H.frozen? ⟨R,1,ϋ⟩=ύ:=yw I.o 1;have aI:H.cell? ⟨R,1,ϋ⟩=ϊ (ι first):=qm I.o 1 rfl;refine Qn H 14 15 [12,14] ?_
 refine Qs ?_
 (refine Ql ?_;intro K d)
 refine⟨qk ρ,d _ _ ?_⟩;clear d K
 refine Qq1 ?_
 (refine Qe ?_;intro K d)
 refine d _ _ ?_;clear d K Y aa;refine qA ?_;have ay:((first:Int)+1)%(room:Int)=(((first+1)%room:Nat):Int):=by rw[I0];rfl
 rw[ay];obtain⟨M,O⟩:=ν ((H.drewN 1).setCell ⟨R,1,ϋ⟩ (ι ((first+1)%room:Nat)));have aC:Hid (jt (RgB R A) W2 M):=κ (by rw[<-O];exact(an.o.drewN 1).set (ϒ rfl) _);have aj:Hid (M.heap[R]? =ϊ (.cells (jV A room ((first+1)%room) (c::T).length ad ae ab ac) (Ξf:Nat) (0,0))):=κ (by rw[<-O];exact qB (qp (qr I.o 1) 1 _) rfl);have aD:Hid (M.heap[A]? =ϊ (.cells (css.set first Ξd).flatten.toArray (Ξe:Nat) (0,0))):=κ (by rw[<-O];exact qo (qr av.o 1) _ _ (C0 G.o.ne));have aE:Hid (M.heap[xc]? =ϊ (.cells c.toArray (Ξe:Nat) (0,0))):=κ (by rw[<-O];exact qo (qr ax.o 1) _ _ (by show xc≠R;omega));have aq:Hid (M.heap[rc]? =ϊ (.cells Ξd (Ξe:Nat) (0,0))):=κ (by rw[<-O];exact qo (qr ap.o 1) _ _ (by show rc≠R;omega));rw[O];clear O an I av ax ap aF aI ay;have aV:M.cell? ⟨R,2,ϋ⟩=ϊ (ι (c::T).length):=qm aj.o 2 rfl;have aK:M.frozen? ⟨R,2,ϋ⟩=ύ:=yw aj.o 2;have aJ:(((c::T).length:Nat):Int)-1=(T.length:Int):=by simp
 go_wp2_with (first | (refine vO rfl (Ξe:Nat) (.tmp 3) rfl xc (Ξe:Nat) c.toArray _ (qo aE.o _ _ (by show xc≠R;omega)) rfl Ξg rfl (by rw[U];kernel_rfl) ?_) | (refine xW rfl (Ξe:Nat) (.tmp 2) (.tmp 49) rfl rc (Ξe:Nat) _ c.toArray (qo aq.o _ _ (by show rc≠R;omega)) rfl rfl (by rw[U];kernel_rfl) (by rw[U];rfl) (all_oneCell_toArray ah.2) ?_))
 have aG:R≠A:=G.o.ne;refine bodyPost_ret (v:= θ c.toArray) (results_cell_row Ξm _ _ rc (Ξe:Nat) c.toArray (0,0) _ rfl (jY (qo aq.o _ _ (by show rc≠R;omega)) _) Ξg rfl (by rw[U];kernel_rfl)) rfl ?_;refine⟨rfl, ?_, ?_⟩
 ·exact G.o.took Ξl (qS (qB (qp aj.o 2 _) (by simp[jV])) _ τ) (qS (qo aD.o _ _ (C0 aG)) _ τ)
 ·exact(((jt.of_more (au.o.trans am.o)).trans aC.o).set (ϒ rfl) _).rowNew τ _):P:=h
section
open _root_.Go.Proofs.Tryz renaming func238->Ξb,ntmps238->Ξc,underlying253->Ξg,underlying325->Ξi,results238->Ξm
open _root_.Go.Proofs.YtlmllmonabafjaaGreatDoor renaming Ν13->Ξa,Γa->Ξd,Ν253->Ξe,Ν327->Ξf,Ν325->Ξh,LN->Ξj,zsI->Ξk,zokI->Ξl
def DK (w:World) (R A room first:Nat) (c:List Value) (T:List (List Value)) (ad ae ab ac:Int) (css:List (List Value)) (h:qN 13 327 253 w R A room first (c::T) ad ae ab ac css):
  Calls prog 238 #[γ R] w λe w'=>e= .returned (θ c.toArray)/\qN 13 327 253 w' R A room ((first+1)%room) T ad ae ab ac (css.set first Γa)/\jt (RgB R A) w w':=Ψ2
end
def Ni {R A first:Nat} {H I d G:Int} (h:qN 13 327 253 w R A room first q H I d G css):
  Calls prog 113 #[γ R] w λe w'=>e= .returned (ι q.length)/\w'=w:=by
 have J:w.cell? ⟨R,2,ϋ⟩=ϊ (ι q.length):=qm h.ring 2 rfl;clear h
 go_enter func113,ntmps113
 go_wp2;go_ret;exact⟨rfl,rfl⟩
def Ψ3 (h:P:=by
 have N:w.cell? ⟨R,0,ϋ⟩=ϊ (δ (ϊ ⟨A,0,ϋ⟩) room room):=qm h.ring 0 rfl;have O:w.cell? ⟨R,2,ϋ⟩=ϊ (ι q.length):=qm h.ring 2 rfl;have M:((q.length:Int)==(room:Int))=decide (q.length=room):=by by_cases e:q.length=room<;>simp[e];omega
 clear h
 go_enter Ξa,Ξb
 go_wp2;refine wp_region_quiet_lit ξ ξ ?_
 repeat (go_big_quiet_step (fail))
 refine wpQuiet_nil ?_;intro _ J;obtain⟨nq,rfl⟩:=J;go_wp2;go_ret;exact⟨rfl,nq,rfl⟩):P:=h
section
open _root_.Go.Proofs.Tryz renaming func256->Ξa,ntmps256->Ξb
def Mj {R A first:Nat} {H I d G:Int} (h:qN 13 327 253 w R A room first q H I d G css):
  Calls prog 256 #[γ R] w λe w'=>e= .returned (μ (decide (q.length=room)))/\ ∃k,w'=w.drewN k:=Ψ3
end
def mkI (n:Nat) (M:1<=n) (N:n<=8) (w:World):
  (Instr.makeSlice 325 (ι (n:Int)) (ι (n:Int))).run prog w= .ok (δ (ϊ ⟨w.heap.size,0,ϋ⟩) n n) (w.alloc (.cells (List.replicate n (Γa:List Value)).flatten.toArray 253)):=by
 obtain⟨J,hi,G,H,I⟩:=info_parts (P:=prog) (e:=253) (z:= Γa) (size:=13) (bytes:=120) ξ;have d:=run_make (P:=prog) w 325 253 J (Γa) underlying325 hi G .i64 .i64 n n τ τ (by rw[I];omega) τ;rw[d];simp only[ο,H];rw[Yq _ 13 n rfl ζ];rfl
def Pp (m:Int) (n:Nat) (I:m=n) (d:1<=n) (G:n<=8) (w:World):
  Calls prog 146 #[ι m] w λe w'=>e= .returned (.tuple #[γ (w.heap.size+1),ι 0])/\qN 13 327 253 w' (w.heap.size+1) w.heap.size n 0 [] 0 0 0 0 (List.replicate n (Γa:List Value))/\ql w w':=by
 subst I;have J:1<=(n:Int):=by omega
 go_enter func146,ntmps146
 have M:=mkI n d G;go_wp2;refine bodyPost_ret (v:= .tuple #[γ (w.heap.size+1),ι 0]) (by simp[results,results146,go_sem]) rfl ?_;refine⟨rfl, ?_,ρ⟩;exact⟨qC η,qs (qB (qj _ _) rfl) _,τ,η,λc H=>by rw[F8 H];exact zokI,⟨d,G⟩,τ,η,λi hi=>by simp at hi⟩
def Ψ4 (h:P:=by
 have d:=κ h;have U:=h.ofHead;have J:c.toArray.size=(Ξa:Nat):=by simpa using U.1
 have ae:(((c::T).length:Int)==0)=ύ:=by simp;omega
 clear h;have ad:R<w.heap.size:=qn d.o.ring;have ac:A<w.heap.size:=qn d.o.row;have af:w.cell? ⟨R,2,ϋ⟩=ϊ (ι (c::T).length):=qm d.o.ring 2 rfl;have ag:w.cell? ⟨R,5,ϋ⟩=ϊ (ι N):=qm d.o.ring 5 rfl;have ab:w.frozen? ⟨R,5,ϋ⟩=ύ:=yw d.o.ring 5
 go_enter Ξb,Ξc
 go_wp2_with (first | (((with_reducible refine(Ξd _ R A room first c T I _ G H css ((d.o.popped _).more W4)).mono ?_);rintro e w5 ⟨rfl,O,a5⟩;have aa:=κ O;have Y:Hid (jt (RgB R A) w w5):=κ ((((jt.refl _ _).set (ϒ rfl) _).alc _).trans a5);have M:Hid (w5.heap[w.heap.size]? =ϊ (.cells Ξe (Ξf:Nat) (0,0))):=κ (a5.blk (qC η) X0);clear O a5)) | (refine xW rfl (Ξf:Nat) (.tmp 2) (.tmp 21) rfl w.heap.size (Ξf:Nat) _ c.toArray M.o rfl rfl (by rw[J];kernel_rfl) (by rw[J];rfl) (all_oneCell_toArray U.2) ?_))
 refine bodyPost_ret (v:= .tuple #[θ c.toArray,ό]) (yo Ξg _ _ w.heap.size (Ξf:Nat) c.toArray _ _ rfl rfl (jY M.o _) Ξh rfl (by rw[J];kernel_rfl)) rfl ?_;exact⟨rfl,⟨_,aa.o.away (EC _ _ _) (λe:R=w.heap.size=>by omega) (λe:A=w.heap.size=>by omega)⟩,Y.o.rowNew (ϕ _) _⟩):P:=h
section
open _root_.Go.Proofs.Tryz renaming func197->Ξb,ntmps197->Ξc,results197->Ξg,underlying253->Ξh
open _root_.Go.Proofs.YtlmllmonabafjaaGreatDoor renaming Ν13->Ξa,DK->Ξd,Γa->Ξe,Ν253->Ξf
def Nb (w:World) (R A room first:Nat) (c:List Value) (T:List (List Value)) (I N G H:Int) (css:List (List Value)) (h:qN 13 327 253 w R A room first (c::T) I N G H css):
  Calls prog 197 #[γ R] w λe w'=>e= .returned (.tuple #[θ c.toArray,ό])/\(∃co',qN 13 327 253 w' R A room ((first+1)%room) T I co' G H (css.set first Γa))/\jt (RgB R A) w w':=Ψ4
end
def Ψ5 (h:P:=by
 have O:=κ h;have bg:R<w.heap.size:=qn h.ring;have bf:A<w.heap.size:=qn h.row;have bo:(((w.alloc (.cells x.toArray (Ξa:Nat))).alloc (.cells Ξb (Ξa:Nat))).alloc (.cells Ξb (Ξa:Nat))).cell? ⟨R,3,ϋ⟩=ϊ (μ ύ):=qm (qs (qs (qs h.ring _) _) _) 3 rfl;have ar:=κ aO;clear h aO
 go_enter Ξc,Ξd
 go_upto_if 16 with (first | (((with_reducible refine(Ξe (O.o.more (((ql.refl w).al _).al _ |>.al _))).mono ?_);rintro e am ⟨rfl,bm,aj⟩;rw[ar.o];have af:Hid (ql w am):=κ (by rw[aj];exact(((ql.refl w).al _).al _ |>.al _).dr _);have ay:Hid (am.heap[w.heap.size]? =ϊ (.cells x.toArray (Ξa:Nat) (0,0))):=κ (by rw[aj];exact qr (qs (qs (qj _ _) _) _) _);have av:Hid (am.heap[w.heap.size+1]? =ϊ (.cells Ξb (Ξa:Nat) (0,0))):=κ (by rw[aj];exact qr (qs (qC η) _) _);have aw:Hid (am.heap[w.heap.size+2]? =ϊ (.cells Ξb (Ξa:Nat) (0,0))):=κ (by rw[aj];exact qr (qC η) _);clear aj)))
 go_cut [] from 17 to 67 (λan=> ∃(G:List Value) (f:Nat) (q:List (List Value)) (H:Int) (cs:List (List Value)),qN (Ξf:Nat) (Ξg:Nat) (Ξa:Nat) an R A room f q Y ai H ah cs/\jt (RgB R A) w an/\an.heap[w.heap.size]? =ϊ (.cells x.toArray (Ξa:Nat) (0,0))/\an.heap[w.heap.size+1]? =ϊ (.cells Ξb (Ξa:Nat) (0,0))/\an.heap[w.heap.size+2]? =ϊ (.cells G.toArray (Ξa:Nat) (0,0))/\q.length<room/\(G.length=(Ξf:Nat)/\ ∀u∈G,u.oneCell'=ό)/\Wt Ξb first room N css U aa G f q H cs)
 case first=>
  cases aa with
  | false=>
   have aC:N.length<room:=by have:=O.o.fits;have:=C1 ar.o;omega
   go_wp2;go_meet;exact⟨Ξb,first,N,U,css,O.o.more af.o,jt.of_more af.o,ay.o,av.o,aw.o,aC,Ξh,rfl,rfl,rfl,rfl,rfl⟩
  | true=>
   cases N with
   | nil=>exact ϩ (ϟ ar.o) (by have:=O.o.pos;simp;omega)
   | cons c T=>
    have aB:=O.o.ofHead;have M:c.toArray.size=(Ξf:Nat):=by simpa using aB.1
    have aC:T.length<room:=by have:=ϟ ar.o;simp at this;omega
    go_wp2_with (first | (((with_reducible refine(Ξi am R A room first c T Y ai U ah css (O.o.more af.o)).mono ?_);rintro e w5 ⟨rfl,ab,a5⟩;have aJ:=κ ab;have aE:=κ a5;have aK:=κ (a5.blk ay.o X0);have aG:=κ (a5.blk av.o X0);have ax:=κ (a5.blk aw.o X0);clear ab a5)) | (refine yL (.store (Ξa:Nat) (.tmp 7) (.tmp 18)) rfl ?_;refine xW rfl (Ξa:Nat) (.tmp 7) (.tmp 18) rfl (w.heap.size+2) (Ξa:Nat) _ c.toArray ax.o rfl rfl (by rw[M];kernel_rfl) (by rw[M];rfl) (all_oneCell_toArray aB.2) ?_;obtain⟨w6,aS⟩: ∃w6,w5.setRow (w.heap.size+2) c.toArray=w6:=⟨_,rfl⟩;have aq:=κ (aJ.o.away (EC w5 (w.heap.size+2) c.toArray) (λe:R=w.heap.size+2=>by omega) (λe:A=w.heap.size+2=>by omega));have ao:Hid (jt (RgB R A) w (w5.setRow (w.heap.size+2) c.toArray)):=κ (((jt.of_more af.o).trans aE.o).rowNew τ _);have aM:Hid ((w5.setRow (w.heap.size+2) c.toArray).heap[w.heap.size]? =_):=κ (qS aK.o _ τ);have ad:Hid ((w5.setRow (w.heap.size+2) c.toArray).heap[w.heap.size+1]? =_):=κ (qS aG.o _ τ);have ap:Hid ((w5.setRow (w.heap.size+2) c.toArray).heap[w.heap.size+2]? =_):=κ (jY ax.o c.toArray);rw[aS] at aq ao aM ad ap ⊢;clear aS aJ aE aK aG ax;have bq:w6.cell? ⟨R,6,ϋ⟩=ϊ (ι U):=qm aq.o.ring 6 rfl;have be:w6.frozen? ⟨R,6,ϋ⟩=ύ:=yw aq.o.ring 6))
    go_meet;exact⟨c,_,T,_,css.set first Ξb,aq.o.dropped _,ao.o.set (ϒ rfl) _,qo aM.o _ _ (by show w.heap.size≠R;omega),qo ad.o _ _ (by show w.heap.size+1≠R;omega),qo ap.o _ _ (by show w.heap.size+2≠R;omega),aC,aB,rfl,rfl,rfl⟩
 case rest=>
 obtain⟨G,f,q,H,cs,ab,a5,aD,az,c5,ba,aQ,aR⟩:=hcut;have M:G.toArray.size=(Ξf:Nat):=by simpa using aQ.1
 obtain⟨ag,aA⟩:=ν (wc);rw[aA] at ab a5 aD az c5;rw[aA];have d:=κ ab;have aF:=κ a5;have aL:=κ aD;have aH:=κ az;have aI:=κ c5;have aT:=κ aR;clear ab a5 aD az c5 aR aA af ay av aw
 go_upto_region 8 with fail
 have aU: ∀x:qt ag,x.w'.cell? ⟨R,0,ϋ⟩=ϊ (δ (ϊ ⟨A,0,ϋ⟩) room room):=λx=>x.cell (qn d.o.ring) (qm d.o.ring 0 rfl)
 have aV: ∀x:qt ag,x.w'.cell? ⟨R,1,ϋ⟩=ϊ (ι f):=λx=>x.cell (qn d.o.ring) (qm d.o.ring 1 rfl)
 have aW: ∀x:qt ag,x.w'.cell? ⟨R,2,ϋ⟩=ϊ (ι q.length):=λx=>x.cell (qn d.o.ring) (qm d.o.ring 2 rfl)
 have bj:((f:Int)+(q.length:Int))%(room:Int)=(((f+q.length)%room:Nat):Int):=by rw[I0];rfl
 have aZ:(f+q.length)%room<room:=I6 _ τ;have hi:(((f+q.length)%room:Nat):Int)<(room:Int):=by omega
 have bk:=d.o.pos;have bh:=d.o.fst;have bi:(f:Int)<=8:=by omega
 have bl:(q.length:Int)<=8:=by omega
 generalize aY:(f+q.length)%room=I at *;refine Qn ag 21 22 [21] ?_
 refine Ny ?_
 refine jh rfl rfl (qk ρ) (Ξa:Nat) (.tmp 3) rfl w.heap.size 0 rfl x _ (λw' bb=>by obtain⟨y,rfl⟩:=bb;exact xy (qq y.h aL.o)) Ξj rfl (by rw[ac.1];kernel_rfl) ?_;intro K ak;go_simp;refine ak _ ?_;clear ak K
 refine Qq1 ?_
 refine zY rfl rfl ζ ?_;intro K ak;refine zF (Ξa:Nat) (.tmp 48) (.tmp 47) rfl A (I* (Ξf:Nat)) (Ξa:Nat) cs.flatten.toArray x rfl rfl (qr d.o.row 1) (by rw[d.o.size,ac.1];have:=A7 (Ξf:Nat) (show I+1<=room by omega);omega) (by rw[ac.1];kernel_rfl) ac.2 ?_;refine⟨trivial, ?_⟩;go_simp;refine ak _ _ ?_;clear ak K aU aV aW;refine qA ?_;obtain⟨W6,J⟩:=ν ((ag.drewN 1).setRow A (xQ cs.flatten (I* (Ξf:Nat)) x).toArray);have ao:Hid (jt (RgB R A) w W6):=κ (by rw[<-J];exact(aF.o.drewN 1).row (ϔ rfl) _);have ae:Hid (W6.heap[R]? =ϊ (.cells (jV A room f q.length Y ai H ah) (Ξg:Nat) (0,0))):=κ (by rw[<-J];exact qS (qr d.o.ring 1) _ d.o.ne);have aX:Hid (W6.heap[A]? =ϊ (.cells (cs.set I x).flatten.toArray (Ξa:Nat) (0,0))):=κ (by rw[<-J,<-JO cs I _ d.o.cl ac.1 (by rw[d.o.len];exact aZ)];exact jY (qr d.o.row 1) _);have ad:Hid (W6.heap[w.heap.size+1]? =ϊ (.cells Ξb (Ξa:Nat) (0,0))):=κ (by rw[<-J];exact qS (qr aH.o 1) _ τ);have ap:Hid (W6.heap[w.heap.size+2]? =ϊ (.cells G.toArray (Ξa:Nat) (0,0))):=κ (by rw[<-J];exact qS (qr aI.o 1) _ τ);rw[J];clear J aF aL aH aI;have aN:w.heap.size+2≠R:=by omega
 have au:w.heap.size+1≠R:=by omega
 have bn:W6.cell? ⟨R,2,ϋ⟩=ϊ (ι q.length):=qm ae.o 2 rfl;have bc:W6.frozen? ⟨R,2,ϋ⟩=ύ:=yw ae.o 2;have bp:W6.cell? ⟨R,4,ϋ⟩=ϊ (ι Y):=qm ae.o 4 rfl;have bd:W6.frozen? ⟨R,4,ϋ⟩=ύ:=yw ae.o 4
 go_wp2_with (first | (refine yL (.load (Ξa:Nat) (.tmp 7)) rfl ?_;refine vO rfl (Ξa:Nat) (.tmp 7) rfl (w.heap.size+2) (Ξa:Nat) G.toArray _ (qo (qo ap.o ⟨R,2,ϋ⟩ _ aN) ⟨R,4,ϋ⟩ _ aN) rfl Ξj rfl (by rw[M];kernel_rfl) ?_) | (refine yL (.store (Ξa:Nat) (.tmp 4) (.tmp 65)) rfl ?_;refine xW rfl (Ξa:Nat) (.tmp 4) (.tmp 65) rfl (w.heap.size+1) (Ξa:Nat) _ G.toArray (qo (qo ad.o ⟨R,2,ϋ⟩ _ au) ⟨R,4,ϋ⟩ _ au) rfl rfl (by rw[M];kernel_rfl) (by rw[M];rfl) (all_oneCell_toArray aQ.2) ?_))
 have aP:R≠A:=d.o.ne;refine bodyPost_ret (v:= .tuple #[θ G.toArray,aa,ι 0]) (KW Ξk _ _ (w.heap.size+1) (Ξa:Nat) G.toArray _ _ _ rfl rfl rfl (jY (qo (qo ad.o ⟨R,2,ϋ⟩ _ au) ⟨R,4,ϋ⟩ _ au) _) Ξj rfl (by rw[M];kernel_rfl)) rfl ?_;subst aY;refine⟨_,_,_,_,_,rfl,⟨wrap64 (Y+1),d.o.put ba ac ?_ ?_⟩,((ao.o.set (ϒ rfl) _).set (ϒ rfl) _).rowNew τ _,aT.o⟩
 ·exact qS (qB (qp (qp ae.o 2 _) 4 _) rfl) _ τ
 ·exact qS (qo (qo aX.o _ _ (C0 aP)) _ _ (C0 aP)) _ τ):P:=h
section
open _root_.Go.Proofs.Tryz renaming func196->Ξc,ntmps196->Ξd,underlying253->Ξj,results196->Ξk
open _root_.Go.Proofs.YtlmllmonabafjaaGreatDoor renaming Ν253->Ξa,Γa->Ξb,Mj->Ξe,Ν13->Ξf,Ν327->Ξg,zokI->Ξh,DK->Ξi
def ZG (w:World) (R A room first:Nat) (N:List (List Value)) (Y ai U ah:Int) (css:List (List Value)) (h:qN 13 327 253 w R A room first N Y ai U ah css) (x:List Value) (ac:x.length=13/\ ∀u∈x,u.oneCell'=ό) (aa:Bool) (aO:decide (N.length=room)=aa):
  Calls prog 196 #[γ R,θ x.toArray] w λe w'=> ∃(G:List Value) (f:Nat) (q:List (List Value)) (H:Int) (cs:List (List Value)),e= .returned (.tuple #[θ G.toArray,aa,ι 0])/\(∃ci',qN 13 327 253 w' R A room f (q++[x]) ci' ai H ah (cs.set ((f+q.length)%room) x))/\jt (RgB R A) w w'/\Wt Γa first room N css U aa G f q H cs:=Ψ5
end
def UF (w:World) (R A room first:Nat) (q:List (List Value)) (I H d G:Int) (css:List (List Value)) (h:qN 13 327 253 w R A room first q I H d G css) (ac:q.length<room) (x:List Value) (ab:x.length=13/\ ∀u∈x,u.oneCell'=ό):
  Calls prog 196 #[γ R,θ x.toArray] w λe w'=>e= .returned (.tuple #[Γa,μ ύ,ι 0])/\(∃ci',qN 13 327 253 w' R A room first (q++[x]) ci' H d G (css.set ((first+q.length)%room) x))/\jt (RgB R A) w w':=
 (ZG w R A room first q I H d G css h x ab ύ (ϫ τ)).mono λe w' ⟨_,_,_,_,_,Y,aa,a,J,M,N,O,U⟩=>by
  subst J M N O U;exact⟨Y,aa,a⟩
def UG (w:World) (R A room first:Nat) (c:List Value) (T:List (List Value)) (N I M G:Int) (css:List (List Value)) (h:qN 13 327 253 w R A room first (c::T) N I M G css) (aa:(c::T).length=room) (x:List Value) (ac:x.length=13/\ ∀u∈x,u.oneCell'=ό):
  Calls prog 196 #[γ R,θ x.toArray] w λe w'=>e= .returned (.tuple #[θ c.toArray,ό,ι 0])/\(∃H d,qN 13 327 253 w' R A room ((first+1)%room) (T++[x]) H I d G ((css.set first Γa).set (((first+1)%room+T.length)%room) x))/\jt (RgB R A) w w':=
 (ZG w R A room first (c::T) N I M G css h x ac ό (ϭ aa)).mono λe w' ⟨ad,f,q,d,cs,Y,⟨H,ab⟩,a,J,O,U⟩=>by
  injection J with J h4
  subst J O U h4;exact⟨Y,⟨H,d,ab⟩,a⟩
def Ag (c:List Value) (h:c.length=13): ∃a0 a1 a2 a3 a4 a5 a6 a7 a8 a9 a10 a11 a12,c=[a0,a1,a2,a3,a4,a5,a6,a7,a8,a9,a10,a11,a12]:=by
 match c,h with
 | [a0,a1,a2,a3,a4,a5,a6,a7,a8,a9,a10,a11,a12],_=>exact⟨a0,a1,a2,a3,a4,a5,a6,a7,a8,a9,a10,a11,a12,rfl⟩
def zI {w':World} {e m:Nat} (h:w.ownsRow base e n v m xs) (a:jt S w w') (H: ∀b,base<=b-> ¬S b):w'.ownsRow base e n v m xs:=by
 obtain⟨d,G⟩:=h;refine⟨d, ?_⟩;rcases G with h | ⟨b,cap,cur,e1,hb,hg,rest⟩
 ·exact ϒ h
 ·exact ϔ ⟨b,cap,cur,e1,hb,a.blk hg (H b hb),rest⟩
def vV {e size b:Nat} (h:w.ownsRow base e size v n xs) (d:v.ownBlock=ϊ b):base<=b:=by
 rcases h.2 with ⟨rfl,_⟩ | ⟨g,cap,cur,rfl,G,_⟩
 ·cases d
 ·obtain rfl:g=b:=by injection d
  exact G
def zA {e size:Nat} (h:w.ownsRow base e size v n xs): ∃oa cap,v= δ oa n cap:=by
 rcases h.2 with ⟨rfl,d⟩ | ⟨g,cap,cur,rfl,_⟩
 ·exact⟨ϋ,0,by rw[d]⟩
 ·exact⟨_,cap,rfl⟩
def IN (w:World) (R A room first:Nat) (q:List (List Value)) (J M H I:Int) (css:List (List Value)) (h:qN 13 327 253 w R A room first q J M H I css):
  Calls prog 180 #[γ R] w λe w'=> ∃v,e= .returned v/\w'.ownsRow w.heap.size 253 13 v q.length q.flatten/\(∃first' cg' css',qN 13 327 253 w' R A room first' [] J M H cg' css')/\jt (RgB R A) w w':=by
 obtain⟨aN,aO,aP,aQ,aR⟩:=info_parts (P:=prog) (e:=253) (z:= Γa) (size:=13) (bytes:=120) ξ;have az:=κ h;have aV:R<w.heap.size:=qn h.ring;have aU:A<w.heap.size:=qn h.row;have bb:w.cell? ⟨R,2,ϋ⟩=ϊ (ι q.length):=qm h.ring 2 rfl;have aZ:(q.length:Int)<=8:=by have:=h.fits;have:=h.pos.2;omega
 have aF:=κ h.qall;clear h
 go_enter func180,ntmps180
 go_wp2
 go_loopw [3,8] (λu al wr=> ∃(j f:Nat) (cs:List (List Value)),j<=q.length/\al= ι j/\(∃aw av ap,u= δ aw av ap)/\wr.ownsRow w.heap.size 253 13 u j (q.take j).flatten/\qN 13 327 253 wr R A room f (q.drop j) J M H I cs/\jt (RgB R A) w wr) (λ_ al _=>q.length-(intOf al).toNat)
 case atStart=>exact⟨0,first,css,τ,rfl,⟨_,_,_,rfl⟩,World.ownsRow_nil w _ _ _,az.o,jt.refl _ _⟩
 case round=>
  obtain⟨j,f,cs,aX,rfl,⟨aw,av,ap,rfl⟩,d,au,ar⟩:=hrel;have am:=κ d;have G:=κ au;have ag:=κ ar;clear d au ar;by_cases hlt:j<q.length
  ·have ai:q.drop j=q[j]::q.drop (j+1):=F2 hlt;have ak:q.take (j+1)=q.take j++[q[j]]:=by rw[A8,ϖ hlt];rfl
   have af:=aF.o q[j] (ϛ hlt);have aY:(j:Int)<(q.length:Int):=by omega
   obtain⟨c,aH⟩: ∃c,Hid (c=q[j]):=⟨_,κ rfl⟩;rw[<-aH.o] at ai ak af;have aC:=κ (ai▸G.o);have aD:=κ ak;have aW:c.toArray.size=13:=by simpa using af.1
   clear ai ak G;obtain⟨a0,O,ab,a3,a4,a5,ac,ad,ae,a9,U,Y,aa,rfl⟩:=Ag c af.1
   go_wp2_with (first | (go_at_call 238;(go_call DK wr R A room f [a0,O,ab,a3,a4,a5,ac,ad,ae,a9,U,Y,aa] (q.drop (j+1)) J M H I cs aC.o as e w5 ⟨rfl,aq,a5⟩;have aA:=κ aq;have ax:=κ a5;have N:=κ (zI am.o a5 (λb ah e=>by rcases e with e | e<;>omega));have aG:Hid (w.heap.size<=w5.heap.size):=κ (Ϙ ag.o.size a5.size);clear aq a5)) | (at_builtin;refine wpList_append_own_at _ rfl (.tmp 10) (.tmp 13) 325 rfl w.heap.size 253 aN (Γa) 13 120 underlying325 aO aP aQ aR rfl ζ _ j (q.take j).flatten rfl (zI N.o (jt.of_more W4) (λb _ e=>e)) ⟨w5.heap.size,0,ϋ⟩ 1 1 [a0,O,ab,a3,a4,a5,ac,ad,ae,a9,U,Y,aa] rfl rfl (λi u aK=>by have:=xy (cs:=[a0,O,ab,a3,a4,a5,ac,ad,ae,a9,U,Y,aa]) (t:=253) (qj w5 (.cells #[a0,O,ab,a3,a4,a5,ac,ad,ae,a9,U,Y,aa] 253)) i u aK;rw[Addr.add_mid];exact this) af.2 (by unfold maxLen;omega) τ (by have:=aG.o;simp;omega) ?_;intro bd w6 d aj aI aL;have aE:=κ d;have ay:Hid (jt (RgB R A) w w6):=κ (((ag.o.trans ax.o).alc _).grown aj (λb ah=>vV N.o ah));have aB:Hid (qN 13 327 253 w6 R A room ((f+1)%room) (q.drop (j+1)) J M H I (cs.set f Γa)):=κ ((aA.o.more W4).away (jt.of_grown aj) (λe=>by have:=vV N.o e;omega) (λe=>by have:=vV N.o e;omega));obtain⟨ba,aS,rfl⟩:=zA d;clear d aj aI aL))
   go_roundw
   case rel=>exact⟨j+1,(f+1)%room,_,τ,by go_num,⟨_,_,_,rfl⟩,by rw[aD.o,K6];simpa using aE.o,aB.o,ay.o⟩
   case measure=>simp[intOf];omega
  ·obtain rfl:j=q.length:=by omega
   have bc:wr.cell? ⟨R,7,ϋ⟩=ϊ (ι I):=qm G.o.ring 7 rfl;have aT:wr.frozen? ⟨R,7,ϋ⟩=ύ:=yw G.o.ring 7;go_wp2;go_ret;have aM:q.drop q.length=[]:=by simp
   have aJ:q.take q.length=q:=by simp
   have ao:=G.o;have an:=am.o;rw[aM] at ao;rw[aJ] at an;exact⟨_,rfl,zI an ((jt.refl (λb=>b=R) _).set rfl _) (λb ah e=>by omega),⟨_,_,_,ao.drained _⟩,ag.o.set (ϒ rfl) _⟩
def idV (c:List Value):Value:=match c with | .int .i64 n::_=> .int .i64 n | _=> .int .i64 0
def idN (c:List Value):Int:=match c with | .int .i64 n::_=>n | _=>0
def YB {e:Nat} (h:w.ownsRow base e n v q.length q.flatten) (I: ∀c∈q,c.length=n):
  ∃oa cap,v= δ oa q.length cap/\ ∀j,j<q.length-> ∃b,oa=ϊ ⟨b,0,ϋ⟩/\b<w.heap.size/\ ∀w',ql w w'->w'.rangeAt b (j* n) (q.getD j []):=by
 obtain⟨U,N⟩:=h;rcases N with ⟨rfl,M⟩ | ⟨g,cap,cur,rfl,Y,H,ae,ab,ac,O⟩
 ·exact⟨ϋ,0,by rw[M],λj d=>by omega⟩
 ·refine⟨_,cap,rfl,λj d=>⟨g,rfl,lt_of_block H,λw' m i u J=> ?_⟩⟩;have aa:(q.getD j []).length=n:=by
   rw[ϑ,ϖ d];exact I _ (ϛ d)
  have hi:i<n:=by have:=(Ϛ.1 J).1;omega
  have ad:j* n+n<=q.length* n:=by
   have:(j+1)* n<=q.length* n:=A7 n d;rw[G0,N0] at this;exact this
  have G:=Wr q j i I d hi;rw[<-O,B3,ϐ τ] at G;rw[cell_of_row w' g _ cur e (0,0) (qq m H),<-J,<-G];simp
def Fl (i:Int) (c:List Value) (d:c.length=12) (w:World):Calls prog 181 #[θ (ι i::c).toArray] w λe w'=>e= .returned (ι i)/\ql w w':=by
 obtain⟨a0,G,M,a3,a4,a5,N,O,U,a9,H,I,J,h⟩:=Ag (ι i::c) (by simp[d]);obtain⟨rfl,rfl⟩:a0= ι i/\c=[G,M,a3,a4,a5,N,O,U,a9,H,I,J]:=by
  injection h with h1 h2
  exact⟨h1.symm,h2⟩
 clear h d
 go_enter func181,ntmps181
 go_wp2;go_ret;exact⟨rfl,ρ⟩
def Ψ6 (h:P:=by
 obtain⟨aJ,hi,aG,aH,aI⟩:=info_parts (P:=prog) (e:=3) (z:= ι 0) (size:=1) (bytes:=8) ξ;obtain⟨aP,cap,rfl,ap⟩:=YB row (λc d=>by obtain⟨i,r,rfl,I⟩:=Y c d;simp[I]);have ay:=κ ap;have ax:=κ Y;have aA:=κ ah;clear row ap Y ah
 go_enter Ξa,Ξb
 go_wp2
 go_loopw [5,10] (λu ad wr=> ∃j:Nat,j<=q.length/\ad= ι j/\(∃au ar ag,u= δ au ar ag)/\wr.ownsRow w.heap.size 3 1 u ((q.take j).map idN).length (((q.take j).map idN).map (Value.int .i64))/\ql w wr) (λ_ ad _=>q.length-(intOf ad).toNat)
 case atStart=>exact⟨0,τ,rfl,⟨_,_,_,rfl⟩,World.ownsRow_nil w _ _ _,ql.refl _⟩
 case round=>
  obtain⟨j,aL,rfl,⟨au,ar,ag,rfl⟩,ao,an⟩:=hrel;have J:=κ ao;have H:=κ an;clear ao an;by_cases hlt:j<q.length
  ·have aN:(j:Int)<(q.length:Int):=by omega
   have ab:(q.take (j+1)).map idN=(q.take j).map idN++[idN q[j]]:=by rw[A8,ϖ hlt,Ξ];rfl
   obtain⟨b,rfl,aK,aj⟩:=ay.o j hlt;have am:q.getD j []=q[j]:=by rw[ϑ,ϖ hlt];rfl
   have G:=κ (aj wr H.o);rw[am] at G;obtain⟨id,r,aa,I⟩:=ax.o q[j] (ϛ hlt);rw[aa] at ab G;have az:Hid ((q.take (j+1)).map idN=(q.take j).map idN++[id]):=κ ab;have ac:=aA.o q[j] (ϛ hlt);rw[aa] at ac;obtain⟨c,d⟩: ∃c,c= ι id::r:=⟨_,rfl⟩;have N:=Ξc id r I;rw[<-d] at G ac N;have ai:c.length=(Ξd:Nat):=by rw[d];simp[I]
   have O:c.toArray.size=(Ξd:Nat):=by simpa using ai
   have aw:=κ N;clear d N;clear am aj aa ab;have c1:(((q.take j).map idN).length+[id].length)* 8<=140737488355328:=(by simp;omega)
   go_wp2_with (first | (refine yL (.load (Ξe:Nat) (.tmp 12)) rfl ?_;refine wpList_load_mid rfl (Ξe:Nat) (.tmp 12) rfl b (j* (Ξd:Nat)) rfl c _ G.o Ξf rfl (by rw[ai];kernel_rfl) ?_) | (refine yL (.store (Ξe:Nat) (.tmp 7) (.tmp 13)) rfl ?_;refine xW rfl (Ξe:Nat) (.tmp 7) (.tmp 13) rfl wr.heap.size (Ξe:Nat) _ c.toArray (qj wr _) rfl rfl (by rw[O];kernel_rfl) (by rw[O];rfl) (all_oneCell_toArray ac) ?_;have av:=κ (jY (qj wr (.cells Ξg (Ξe:Nat))) c.toArray)) | (refine yL (.load (Ξe:Nat) (.tmp 7)) rfl ?_;refine vO rfl (Ξe:Nat) (.tmp 7) rfl wr.heap.size (Ξe:Nat) c.toArray _ av.o rfl Ξf rfl (by rw[O];kernel_rfl) ?_) | (refine(aw.o _).mono ?_;rintro e w1 ⟨rfl,aq⟩;have M:Hid (ql wr w1):=κ (((EC _ _ _).to_more W4 (λk e=>by rw[e];exact ϕ _)).trans aq);clear aq) | (at_builtin;refine xr _ rfl (.tmp 14) (.tmp 18) 107 rfl w.heap.size 3 aJ (ι 0) 8 underlying107 hi aG aH aI rfl _ .i64 ((q.take j).map idN) rfl (zI J.o (S:=λ_=>False) ((jt.of_more M.o).alc _) (λ_ _ h=>h)) _ [id] rfl (SlI.lit .i64 w1 [id] 3 _ 1 _ η rfl rfl η) c1 ζ (Ϙ (H.o.trans M.o).size W4.size) ?_;intro aQ w2 U ak;have aC:=κ U;have aB:Hid (ql w w2):=κ ((jt.of_more (S:=λ_=>False) ((H.o.trans M.o).al _)).grown ak (λk aD=>vV J.o aD) |>.to_more (ql.refl _) (λk e=>e.elim));obtain⟨o2,c2,rfl⟩:=zA U;clear U ak))
   go_roundw
   case rel=>exact⟨j+1,τ,by go_num,⟨_,_,_,rfl⟩,by rw[az.o];have af:=aC.o;have aE:((q.take j).map idN++[id]).length=j+1:=(by simp;omega);(rw[aE] at af ⊢;exact af),aB.o⟩
   case measure=>simp[intOf];omega
  ·obtain rfl:j=q.length:=by omega
   have aO: ¬(q.length:Int)<(q.length:Int):=by omega
   go_wp2;go_ret;have aF:q.take q.length=q:=by simp
   have ae:=J.o;rw[aF] at ae;exact⟨⟨_,rfl,by simpa using ae⟩,H.o⟩):P:=h
section
open _root_.Go.Proofs.Tryz renaming func179->Ξa,ntmps179->Ξb,underlying253->Ξf
open _root_.Go.Proofs.YtlmllmonabafjaaGreatDoor renaming Fl->Ξc,Ν13->Ξd,Ν253->Ξe,Γa->Ξg
def Nl (w:World) (v:Value) (q:List (List Value)) (base:Nat) (row:w.ownsRow base 253 13 v q.length q.flatten) (Y: ∀c∈q,∃i r,c= ι i::r/\r.length=12) (ah: ∀c∈q,∀u∈c,u.oneCell'=ό) (aM:q.length<=8):
  Calls prog 179 #[v,.func (.func 181) #[] #[]] w λe w'=>(∃v',e= .returned v'/\w'.ownsRow w.heap.size 3 1 v' (q.map idN).length ((q.map idN).map (Value.int .i64)))/\ql w w':=Ψ6
end
end Go.Proofs.YtlmllmonabafjaaGreatDoor
