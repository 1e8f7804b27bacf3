/- x -/
import Derived.Test.YtlmllmonabafjaaGreatDoorMg2
namespace Go.Proofs.YtlmllmonabafjaaGreatDoor
open Option renaming some->ϊ,none->ϋ
open Bool renaming true->ό,false->ύ
open Go.Value renaming bool->μ,slice->δ,pointer->π,agg->θ
open Go.IntKind renaming i64->ι,u8->υ,u16->φ,u32->ω,i32->χ,u64->ψ
open _root_.Go.Proofs.Tryz
set_option linter.all false
set_option maxHeartbeats 8000000
open Go.RowKit
set_option maxRecDepth 100000
variable {w w':World} {q:List (List Value)} {xs c:List Value} {N S D:Nat->Prop} {vo v vo':Value} {s s':LnS} {b base:Nat} {l:List (Int×List Int)} {α:Type} {P:Program} {R:qO α}
def Cl (c:List Value) (h:c.length=14): ∃a0 a1 a2 a3 a4 a5 a6 a7 a8 a9 a10 a11 a12 a13,c=[a0,a1,a2,a3,a4,a5,a6,a7,a8,a9,a10,a11,a12,a13]:=by
 match c,h with
 | [a0,a1,a2,a3,a4,a5,a6,a7,a8,a9,a10,a11,a12,a13],_=>exact⟨a0,a1,a2,a3,a4,a5,a6,a7,a8,a9,a10,a11,a12,a13,rfl⟩
def Vq {e n m:Nat} (h:w.ownsRow base e n v m xs) (a:qk S w w') (H: ∀b,base<=b-> ¬S b):w'.ownsRow base e n v m xs:=by
 obtain⟨d,G⟩:=h;refine⟨d, ?_⟩;rcases G with h | ⟨b,cap,cur,e1,hb,hg,rest⟩
 ·exact ϐ h
 ·exact ϓ ⟨b,cap,cur,e1,hb,a.blk hg (H b hb),rest⟩
def By {e size n:Nat} (h:w.ownsRow base e size v n xs) (d:v.ownBlock=ϊ b):base<=b:=by
 rcases h.2 with ⟨rfl,_⟩ | ⟨g,cap,cur,rfl,G,_⟩
 ·cases d
 ·obtain rfl:g=b:=by injection d
  exact G
def Fg {e size n:Nat} (h:w.ownsRow base e size v n xs): ∃oa cap,v= δ oa n cap:=by
 rcases h.2 with ⟨rfl,d⟩ | ⟨g,cap,cur,rfl,_⟩
 ·exact⟨ϋ,0,by rw[d]⟩
 ·exact⟨_,cap,rfl⟩
def Nh (w:World) (R A room first:Nat) (q:List (List Value)) (J N H I:Int) (css:List (List Value)) (h:qU 14 330 255 w R A room first q J N H I css):
  Calls prog 183 #[γ R] w λe w'=> ∃v,e= .returned v/\w'.ownsRow w.heap.size 255 14 v q.length q.flatten/\(∃first' cg' css',qU 14 330 255 w' R A room first' [] J N H cg' css')/\qk (RgB R A) w w':=by
 obtain⟨aP,aQ,aR,aS,aT⟩:=info_parts (P:=prog) (e:=255) (z:= Γb) (size:=14) (bytes:=128) ξ;have aB:=κ h;have aX:R<w.heap.size:=qq h.ring;have aW:A<w.heap.size:=qq h.row;have bd:w.cell? ⟨R,2,ϋ⟩=ϊ (ι q.length):=qi h.ring 2 rfl;have bb:(q.length:Int)<=8:=by have:=h.fits;have:=h.pos.2;omega
 have aH:=κ h.qall;clear h
 go_enter func183,ntmps183
 go_wp2
 go_loopw [3,8] (λu an wr=> ∃(j f:Nat) (cs:List (List Value)),j<=q.length/\an= ι j/\(∃ay ax ar,u= δ ay ax ar)/\wr.ownsRow w.heap.size 255 14 u j (q.take j).flatten/\qU 14 330 255 wr R A room f (q.drop j) J N H I cs/\qk (RgB R A) w wr) (λ_ an _=>q.length-(intOf an).toNat)
 case atStart=>exact⟨0,first,css,τ,rfl,⟨_,_,_,rfl⟩,World.ownsRow_nil w _ _ _,aB.o,qk.refl _ _⟩
 case round=>
  obtain⟨j,f,cs,aZ,rfl,⟨ay,ax,ar,rfl⟩,d,aw,av⟩:=hrel;have ao:=κ d;have G:=κ aw;have ai:=κ av;clear d aw av;by_cases hlt:j<q.length
  ·have ak:q.drop j=q[j]::q.drop (j+1):=G3 hlt;have am:q.take (j+1)=q.take j++[q[j]]:=by rw[A9,ϖ hlt];rfl
   have ah:=aH.o q[j] (Ϣ hlt);have ba:(j:Int)<(q.length:Int):=by omega
   obtain⟨c,aJ⟩: ∃c,Hid (c=q[j]):=⟨_,κ rfl⟩;rw[<-aJ.o] at ak am ah;have aE:=κ (ak▸G.o);have aF:=κ am;have aY:c.toArray.size=14:=by simpa using ah.1
   clear ak am G;obtain⟨a0,U,ad,a3,a4,a5,ae,af,ag,a9,Y,aa,ab,ac,rfl⟩:=Cl c ah.1
   go_wp2_with (first | (go_at_call 239;(go_call LB wr R A room f [a0,U,ad,a3,a4,a5,ae,af,ag,a9,Y,aa,ab,ac] (q.drop (j+1)) J N H I cs aE.o as e w5 ⟨rfl,au,a5⟩;have aC:=κ au;have az:=κ a5;have O:=κ (Vq ao.o a5 (λb aj e=>by rcases e with e | e<;>omega));have aI:Hid (w.heap.size<=w5.heap.size):=κ (ϙ ai.o.size a5.size);clear au a5)) | (at_builtin;refine wpList_append_own_at _ rfl (.tmp 10) (.tmp 13) 328 rfl w.heap.size 255 aP (Γb) 14 128 underlying328 aQ aR aS aT rfl ζ _ j (q.take j).flatten rfl (Vq O.o (qk.of_more Z0) (λb _ e=>e)) ⟨w5.heap.size,0,ϋ⟩ 1 1 [a0,U,ad,a3,a4,a5,ae,af,ag,a9,Y,aa,ab,ac] rfl rfl (λi u aM=>by have:=jQ (cs:=[a0,U,ad,a3,a4,a5,ae,af,ag,a9,Y,aa,ab,ac]) (t:=255) (qp w5 (.cells #[a0,U,ad,a3,a4,a5,ae,af,ag,a9,Y,aa,ab,ac] 255)) i u aM;rw[Addr.add_mid];exact this) ah.2 (by unfold maxLen;omega) τ (by have:=aI.o;simp;omega) ?_;intro bf w6 d al aK aN;have aG:=κ d;have aA:Hid (qk (RgB R A) w w6):=κ (((ai.o.trans az.o).alc _).grown al (λb aj=>By O.o aj));have aD:Hid (qU 14 330 255 w6 R A room ((f+1)%room) (q.drop (j+1)) J N H I (cs.set f Γb)):=κ ((aC.o.more Z0).away (qk.of_grown al) (λe=>by have:=By O.o e;omega) (λe=>by have:=By O.o e;omega));obtain⟨bc,aU,rfl⟩:=Fg d;clear d al aK aN))
   go_roundw
   case rel=>exact⟨j+1,(f+1)%room,_,τ,by go_num,⟨_,_,_,rfl⟩,by rw[aF.o,I6];simpa using aG.o,aD.o,aA.o⟩
   case measure=>simp[intOf];omega
  ·obtain rfl:j=q.length:=by omega
   have be:wr.cell? ⟨R,7,ϋ⟩=ϊ (ι I):=qi G.o.ring 7 rfl;have aV:wr.frozen? ⟨R,7,ϋ⟩=ύ:=ql G.o.ring 7;go_wp2;go_ret;have aO:q.drop q.length=[]:=by simp
   have aL:q.take q.length=q:=by simp
   have aq:=G.o;have ap:=ao.o;rw[aO] at aq;rw[aL] at ap;exact⟨_,rfl,Vq ap ((qk.refl (λb=>b=R) _).set rfl _) (λb aj e=>by omega),⟨_,_,_,aq.drained _⟩,ai.o.set (ϐ rfl) _⟩
def IO (i:Int) (c:List Value) (d:c.length=13) (w:World):Calls prog 184 #[θ (ι i::c).toArray] w λe w'=>e= .returned (ι i)/\qh w w':=by
 obtain⟨a0,G,O,a3,a4,a5,U,Y,aa,a9,H,I,J,N,h⟩:=Cl (ι i::c) (by simp[d]);obtain⟨rfl,rfl⟩:a0= ι i/\c=[G,O,a3,a4,a5,U,Y,aa,a9,H,I,J,N]:=by
  injection h with h1 h2
  exact⟨h1.symm,h2⟩
 clear h d
 go_enter func184,ntmps184
 go_wp2;go_ret;exact⟨rfl,ρ⟩
section
open _root_.Go.Proofs.Tryz renaming func182->Ξa,ntmps182->Ξb,underlying255->Ξf
open _root_.Go.Proofs.YtlmllmonabafjaaGreatDoor renaming IO->Ξc,Ν14->Ξd,Ν255->Ξe,Γb->Ξg
def RL (w:World) (v:Value) (q:List (List Value)) (base:Nat) (row:w.ownsRow base 255 14 v q.length q.flatten) (aa: ∀c∈q,∃i r,c= ι i::r/\r.length=13) (ai: ∀c∈q,∀u∈c,u.oneCell'=ό) (aN:q.length<=8):
  Calls prog 182 #[v,.func (.func 184) #[] #[]] w λe w'=>(∃v',e= .returned v'/\w'.ownsRow w.heap.size 3 1 v' (q.map idN).length ((q.map idN).map (Value.int .i64)))/\qh w w':=Ψ6
end
structure LnB where
 L:Nat
 R1:Nat
 A1:Nat
 R2:Nat
 A2:Nat
 R3:Nat
 A3:Nat
variable {k:LnB}
def LnB.muts (k:LnB) (b:Nat):Prop:=b=k.L∨RgB k.R1 k.A1 b∨RgB k.R2 k.A2 b∨RgB k.R3 k.A3 b
def j9 (k:LnB) (vo:Value) (s:LnS):Array Value:=
 #[vo,.pointer (ϊ ⟨k.R1,0,ϋ⟩),.pointer (ϊ ⟨k.R2,0,ϋ⟩),.pointer (ϊ ⟨k.R3,0,ϋ⟩),.bool s.wanted,.int .i64 s.cur,.int .i64 s.tgt,
  .int .u32 s.rw.src,.int .u16 s.rw.sq,.int .u32 s.rw.st,.bool s.rw.any,.int .u32 s.rw.last,.int .u32 s.rw.shift,.int .i64 s.most,.int .i64 s.row,.bool s.gone]
def lnD (N:Nat->Prop) (k:LnB) (b:Nat):Prop:=N b->k.muts b
def lnE (N:Nat->Prop) (k:LnB) (vo:Value) (b:Nat):Prop:=lnD N k b∨vo.ownBlock=ϊ b
def lnM (k:LnB) (vo:Value) (b:Nat):Prop:=k.muts b∨vo.ownBlock=ϊ b
def xy (N:Nat->Prop) (w w':World) (b:Nat):Prop:=N b∨(w.heap.size<=b/\b<w'.heap.size)
structure UL (s:LnS):Prop where
 most:1<=s.most/\s.most<=10
 row:0<=s.row/\s.row<=s.most
 lt:s.gone=ύ->s.row<s.most
 sq:U16 s.rw.sq
 src:U32 s.rw.src
structure LnX (N:Nat->Prop) (w:World) (k:LnB) (vo:Value) (s:LnS):Prop where
 own: ∀b,N b->b<w.heap.size
 muts: ∀b,k.muts b->N b
 dist:(k.L≠k.R1/\k.L≠k.A1/\k.L≠k.R2/\k.L≠k.A2/\k.L≠k.R3/\k.L≠k.A3)/\(k.R1≠k.A1/\k.R1≠k.R2/\k.R1≠k.A2/\k.R1≠k.R3/\k.R1≠k.A3)/\(k.A1≠k.R2/\k.A1≠k.A2/\k.A1≠k.R3/\k.A1≠k.A3)/\(k.R2≠k.A2/\k.R2≠k.R3/\k.R2≠k.A3)/\(k.A2≠k.R3/\k.A2≠k.A3)/\k.R3≠k.A3
 blk:w.heap[k.L]? =ϊ (.cells (j9 k vo s) 153 (0,0))
 r1:RgR 13 327 253 RIt (lnE N k vo) w k.R1 k.A1 s.room s.A
 r2:RgR 14 330 255 RCh (lnE N k vo) w k.R2 k.A2 s.room s.B
 r3:RgR 2 332 56 ROu (lnE N k vo) w k.R3 k.A3 s.room s.C
 o:jd 2 ROu (lnD N k) w 0 56 vo s.W
 ok:UL s
def zZ (N:Nat->Prop) (w:World) (L:Nat) (s:LnS):Prop:= ∃k vo,k.L=L/\LnX N w k vo s
def LnX.vob (h:LnX N w k vo s) (d:vo.ownBlock=ϊ b):N b/\ ¬k.muts b:=by
 have:=h.o.apart b d;unfold lnD at this;exact Classical.not_imp.1 this
def LnX.inN (h:LnX N w k vo s) (d:lnM k vo b):N b:=by
 rcases d with e | e
 ·exact h.muts b e
 ·exact(h.vob e).1
def Oy (d:lnM k vo b):lnE N k vo b:=by
 rcases d with e | e
 ·exact ϐ λ_=>e
 ·exact ϓ e
def uD (d:k.muts b):lnE N k vo b:=ϐ λ_=>d
def LnX.away (h:LnX N w k vo s) (a:qk S w w') (O: ∀b,S b-> ¬N b):LnX N w' k vo s:=by
 have G: ∀b,k.muts b-> ¬S b:=λb d H=>O b H (h.muts b d)
 have I: ∀b,S b->lnE N k vo b:=λb H=>ϐ λJ=>ϧ J (O b H)
 refine⟨λb d=>ϗ (h.own b d) a.size,h.muts,h.dist,a.blk h.blk (G _ (ϐ rfl)), ?_, ?_, ?_, ?_,h.ok⟩
 ·exact h.r1.step a (G _ (ϓ (ϐ (ϐ rfl)))) (G _ (ϓ (ϐ (ϓ rfl)))) I (λb d=>ϐ d)
 ·exact h.r2.step a (G _ (ϓ (ϓ (ϐ (ϐ rfl))))) (G _ (ϓ (ϓ (ϐ (ϓ rfl))))) I (λb d=>ϐ d)
 ·exact h.r3.step a (G _ (ϓ (ϓ (ϓ (ϐ rfl))))) (G _ (ϓ (ϓ (ϓ (ϓ rfl))))) I (λb d=>ϐ d)
 ·exact h.o.step (a.mono λb H J=>ϧ J (O b H))
def LnX.on (h:LnX N w k vo s) (m:qh w w'):LnX N w' k vo s:=h.away (S:=λ_=>False) (qk.of_more m) (λ_ e=>e.elim)
def zZ.away {L:Nat} (h:zZ N w L s) (a:qk S w w') (d: ∀b,S b-> ¬N b):zZ N w' L s:=by
 obtain⟨k,vo,e,x⟩:=h;exact⟨k,vo,e,x.away a d⟩
def zZ.on {L:Nat} (h:zZ N w L s) (m:qh w w'):zZ N w' L s:=by
 obtain⟨k,vo,e,x⟩:=h;exact⟨k,vo,e,x.on m⟩
def xT (h: ∀b,N b->b<w.heap.size) (H: ∀b,vo'.ownBlock=ϊ b->vo.ownBlock=ϊ b∨w.heap.size<=b) (G:lnE (xy N w w') k vo' b):lnE N k vo b:=by
 rcases G with e | e
 ·exact ϐ λd=>e (ϐ d)
 ·rcases H b e with e1 | e1
  ·exact ϓ e1
  ·exact ϐ λd=>by have:=h b d;omega
def Ir (G:lnD (xy N w w') k b):lnD N k b:=λd=>G (ϐ d)
def LnX.held {y:α} (h:LnX N w k vo s) (G:jv R (lnE N k vo) w c y) (a:qk (lnM k vo) w w') (H: ∀b,vo'.ownBlock=ϊ b->vo.ownBlock=ϊ b∨w.heap.size<=b):jv R (lnE (xy N w w') k vo') w' c y:=
 (G.step (a.mono λ_=>Oy)).other λ_ d=>ϐ (xT h.own H d)
def LnX.rows (h:LnX N w k vo s) (a:qk k.muts w w'):jd 2 ROu (lnD (xy N w w') k) w' 0 56 vo s.W:=by
 have H:=h.o.step (a.mono λb d _=>d);obtain⟨⟨xs,o,r⟩,G⟩:=H;refine⟨⟨xs,o,λi hi=>(r i hi).other λb d=>ϐ (xT h.own (λ_ e=>ϐ e) d)⟩,λb d I=>G b d (Ir I)⟩
def LnX.make (h:LnX N w k vo s) (Y:w.heap.size<=w'.heap.size)
  (G:w'.heap[k.L]? =ϊ (.cells (j9 k vo' s') 153 (0,0)))
  (J:RgR 13 327 253 RIt (lnE (xy N w w') k vo') w' k.R1 k.A1 s'.room s'.A)
  (O:RgR 14 330 255 RCh (lnE (xy N w w') k vo') w' k.R2 k.A2 s'.room s'.B)
  (U:RgR 2 332 56 ROu (lnE (xy N w w') k vo') w' k.R3 k.A3 s'.room s'.C)
  (I:jd 2 ROu (lnD (xy N w w') k) w' 0 56 vo' s'.W) (H:UL s'):LnX (xy N w w') w' k vo' s':=
 ⟨λb d=>by
  rcases d with e | e
  ·exact ϗ (h.own b e) Y
  ·exact e.2,λb d=>ϐ (h.muts b d),h.dist,G,J,O,U,I,H⟩
def LnX.grow (h:LnX N w k vo s) (m:qh w w'):LnX (xy N w w') w' k vo s:=by
 have H:=h.on m;have a:qk (λ_=>False) w w':=qk.of_more m;have d: ∀b,lnE (xy N w w') k vo b->lnE N k vo b∨w'.heap.size<=b:=λb G=>ϐ (xT h.own (λ_ e=>ϐ e) G)
 exact h.make m.size H.blk (h.r1.step a (λe=>e) (λe=>e) (λ_ e=>e.elim) d) (h.r2.step a (λe=>e) (λe=>e) (λ_ e=>e.elim) d) (h.r3.step a (λe=>e) (λe=>e) (λ_ e=>e.elim) d) (h.rows (qk.of_more m)) h.ok
def MO {H:Func} {p:Tmp} {d:TypeId} (h:H.results= #[.cell p d]) (tmps:Array Value) (w:World) (g:Nat) (t:TypeId) (cs:Array Value) (G:TypeDesc)
  (N:tmps.getD p undef= γ g) (J:w.heap[g]? =ϊ (.cells cs t (0,0)))
  (U:P.underlying d=ϊ G) (I:(match G with | .struct _ | .array _ _=>ό | _=>ύ)=ό) (hi:(P.info? d).map (·.size)=ϊ cs.size):
  (results H tmps).run P w= .ok (θ cs) w:=by
 have O:tmps[p]?.getD undef= γ g:=by simpa using N
 simp[results,h,O,asAddr,run_loadVar_row w g t d cs (0,0) G J U I hi]
def Qy (h:LnX N w k vo s):Calls prog 69 #[γ k.L] w λe w'=>e= .returned (μ s.gone)/\qh w w':=by
 have d:w.cell? ⟨k.L,15,ϋ⟩=ϊ (μ s.gone):=qi h.blk 15 rfl;clear h
 go_enter func69,ntmps69
 go_wp2;go_ret;exact⟨rfl,ρ⟩
def Pr (h:LnX N w k vo s) (m:qh w w'):Calls prog 113 #[γ k.R1] w' λe w''=>e= .returned (ι s.A.length)/\w''=w':=by
 obtain⟨f,q,J,O,H,I,css,d,G⟩:=(h.on m).r1;rw[<-G.len];exact RG d
def Pq (h:LnX N w k vo s) (m:qh w w'):Calls prog 114 #[γ k.R2] w' λe w''=>e= .returned (ι s.B.length)/\w''=w':=by
 obtain⟨f,q,J,O,H,I,css,d,G⟩:=(h.on m).r2;rw[<-G.len];exact RH d
def Pp (h:LnX N w k vo s) (m:qh w w'):Calls prog 115 #[γ k.R3] w' λe w''=>e= .returned (ι s.C.length)/\w''=w':=by
 obtain⟨f,q,J,O,H,I,css,d,G⟩:=(h.on m).r3;rw[<-G.len];exact RF d
def Fu (h:LnX N w k vo s) (m:qh w w'):Calls prog 120 #[γ k.R2] w' λe w''=>e= .returned (μ (decide (s.B.length=s.room)))/\qh w' w'':=by
 obtain⟨f,q,J,O,H,I,css,d,G⟩:=(h.on m).r2;rw[<-G.len];refine(LJ d).mono ?_;rintro e w'' ⟨rfl,n,rfl⟩;exact⟨rfl,(qh.refl _).dr n⟩
def Vn (h:LnX N w k vo s):Calls prog 74 #[γ k.L,ι 1] w λe w'=>e= .returned (μ (zQ s 1))/\qh w w':=by
 have c1:w.cell? ⟨k.L,1,ϋ⟩=ϊ (π (ϊ ⟨k.R1,0,ϋ⟩)):=qi h.blk 1 rfl;have c2:w.cell? ⟨k.L,2,ϋ⟩=ϊ (π (ϊ ⟨k.R2,0,ϋ⟩)):=qi h.blk 2 rfl;have U:zQ s 1=(decide (0<s.A.length)&&decide (¬s.B.length=s.room)):=rfl;have J:=κ (Pr h (qh.refl w));have d:=κ (Fu h (qh.refl w));rw[U];clear h U;obtain⟨b,G⟩:=ν (decide (s.B.length=s.room));rw[G] at d;have O:decide (¬s.B.length=s.room)= !b:=by rw[<-G];simp
 rw[O];clear G O;by_cases hl:0<s.A.length
 ·have Y:(0:Int)<(s.A.length:Int):=by omega
  have H:decide (0<s.A.length)=ό:=by simp;omega
  rw[H]
  go_enter func74,ntmps74
  go_wp2_with (first | (go_at_call 113;(go_call J.o as e w1 ⟨rfl,rfl⟩)) | (go_at_call 120;(go_call d.o as e w2 ⟨rfl,I⟩)))
  all_goals (go_ret;first | exact⟨η,I⟩ | exact⟨η,qh.refl _⟩)
 ·have Y: ¬(0:Int)<(s.A.length:Int):=by omega
  have H:decide (0<s.A.length)=ύ:=Ϯ hl;rw[H]
  go_enter func74,ntmps74
  go_wp2_with (first | (go_at_call 113;(go_call J.o as e w1 ⟨rfl,rfl⟩)) | (go_at_call 120;(go_call d.o as e w2 ⟨rfl,I⟩)))
  all_goals (go_ret;first | exact⟨η,I⟩ | exact⟨η,qh.refl _⟩)
def Vm (h:LnX N w k vo s):Calls prog 74 #[γ k.L,ι 2] w λe w'=>e= .returned (μ (zQ s 2))/\qh w w':=by
 have c2:w.cell? ⟨k.L,2,ϋ⟩=ϊ (π (ϊ ⟨k.R2,0,ϋ⟩)):=qi h.blk 2 rfl;have d:zQ s 2=decide (0<s.B.length):=rfl;have G:=κ (Pq h (qh.refl w));rw[d];clear h d
 go_enter func74,ntmps74
 go_wp2_with (go_at_call 114;(go_call G.o as e w1 ⟨rfl,rfl⟩))
 go_ret;exact⟨η,qh.refl _⟩
def Xy (h:LnX N w k vo s):Calls prog 74 #[γ k.L,ι 3] w λe w'=>e= .returned (μ (zQ s 3))/\qh w w':=by
 have c3:w.cell? ⟨k.L,3,ϋ⟩=ϊ (π (ϊ ⟨k.R3,0,ϋ⟩)):=qi h.blk 3 rfl;have d:zQ s 3=decide (0<s.C.length):=rfl;have G:=κ (Pp h (qh.refl w));rw[d];clear h d
 go_enter func74,ntmps74
 go_wp2_with (go_at_call 115;(go_call G.o as e w1 ⟨rfl,rfl⟩))
 go_ret;exact⟨η,qh.refl _⟩
def Is (h:LnX N w k vo s):Calls prog 68 #[γ k.L] w λe w'=>e= .returned (θ #[ι s.A.length,ι s.B.length,ι s.C.length])/\qh w w':=by
 have H:=κ h;clear h
 go_enter func68,ntmps68
 go_wp2;obtain⟨W1,J⟩:=ν (w.alloc (.cells #[ι 0,ι 0,ι 0] 104));have G:Hid (qh w W1):=κ (by rw[<-J];exact qh.alloc _ _);have O:Hid (W1.heap[w.heap.size]? =ϊ (.cells #[ι 0,ι 0,ι 0] 104 (0,0))):=κ (by rw[<-J];exact qp w _);rw[J];clear J;have I:=λ(x:qu W1)=>qj (G.o.trans x.h) H.o.blk
 have c1:=λx=>β1 (I x);have c2:=λx=>β2 (I x);have c3:=λx=>β3 (I x);clear I
 refine zr W1 16 [(0,ύ),(1,ύ),(2,ύ),(3,ύ),(5,ύ),(6,ύ),(7,ύ),(8,ύ),(10,ύ),(11,ύ),(12,ύ),(13,ύ),(4,ό),(9,ό),(14,ό),(15,ύ),(16,ό)] ξ ξ ?_
 refine Hf ?_
 (refine Ql ?_;intro K d)
 go_call Pr H.o (G.o.dr 1) as e w2 ⟨rfl,rfl⟩;refine⟨_,rfl,qo ρ,d _ _ ?_⟩;clear d K
 (refine Ql ?_;intro K d)
 go_call Pq H.o (G.o.dr 1) as e w2 ⟨rfl,rfl⟩;refine⟨_,rfl,qo ρ,d _ _ ?_⟩;clear d K
 (refine Ql ?_;intro K d)
 go_call Pp H.o (G.o.dr 1) as e w2 ⟨rfl,rfl⟩;refine⟨_,rfl,qo ρ,d _ _ ?_⟩;clear d K
 refine Qq1 ?_
 refine yk rfl rfl ζ ?_;intro K d;refine jw 104 (.tmp 2) (.tmp 18) rfl w.heap.size 104 _ #[ι s.A.length,ι s.B.length,ι s.C.length] rfl rfl (qr O.o 1) ξ rfl (all_oneCell_toArray Z5) ?_;refine⟨trivial, ?_⟩;go_simp;refine d _ _ ?_;clear d K;refine qD ?_;go_wp2;refine bodyPost_ret (v:= θ #[ι s.A.length,ι s.B.length,ι s.C.length]) (MO results68 _ _ w.heap.size 104 #[ι s.A.length,ι s.B.length,ι s.C.length] _ rfl (xh (qr O.o 1) _) underlying104 rfl ξ) rfl ?_;exact⟨rfl,(xt _ _ _).to_more (G.o.dr 1) (λk e=>by rw[e];exact ϕ _)⟩
def CZ (h:LnX N w k vo s):Calls prog 67 #[γ k.L] w λe w'=>e= .returned (.tuple #[θ #[ι s.cur,ι s.tgt],s.wanted])/\qh w w':=by
 have O:=κ h;have ab:k.L<w.heap.size:=qq h.blk;clear h
 go_enter func67,ntmps67
 go_wp2;obtain⟨W1,H⟩:=ν (w.alloc (.cells #[ι 0,ι 0] 103));have I:Hid (qh w W1):=κ (by rw[<-H];exact qh.alloc _ _);have J:Hid (W1.heap[w.heap.size]? =ϊ (.cells #[ι 0,ι 0] 103 (0,0))):=κ (by rw[<-H];exact qp w _);rw[H];clear H;have c4:=λ(x:qC (λb=>b=w.heap.size) W1)=>β4 (x.h.blk (qj I.o O.o.blk) τ)
 have Y: ∀x:qC (λb=>b=w.heap.size) W1,x.w'.rangeAt k.L 5 [ι s.cur,ι s.tgt]:=λx j v G=>by
  have U:=x.h.blk (qj I.o O.o.blk) (show ¬k.L=w.heap.size by omega)
  match j,G with
  | 0,G=>exact qi U 5 G
  | 1,G=>exact qi U 6 G
 refine QN (λb=>b=w.heap.size) W1 10 10 [8] ?_
 refine Qs3 ?_
 refine jg rfl rfl (qn σ) 103 (.tmp 6) rfl k.L 5 rfl [ι s.cur,ι s.tgt] _ (λw' aa=>by obtain⟨x,rfl⟩:=aa;exact Y x) underlying103 rfl ξ ?_;intro K d;go_simp;refine d _ ?_;clear d K
 refine Qs4 ?_
 refine jY rfl rfl ?_;intro K d;refine jw 103 (.tmp 2) (.tmp 7) rfl w.heap.size 103 _ #[ι s.cur,ι s.tgt] rfl rfl (qr J.o 1) ξ rfl (all_oneCell_toArray Z5) ?_;refine⟨qn (((qk.refl (λb=>b=w.heap.size) W1).drewN 1).row (g:=w.heap.size) rfl _), ?_⟩;go_simp;refine d _ _ ?_;clear d K
 iterate 1 (refine qz rfl rfl (qn (((qk.refl (λb=>b=w.heap.size) W1).drewN 1).row (g:=w.heap.size) rfl _)) ?_;intro K d;go_big_quiet_op;go_big_quiet_on)
 refine qD ?_;go_wp2;refine bodyPost_ret (v:= .tuple #[θ #[ι s.cur,ι s.tgt],s.wanted]) (yN results67 _ _ w.heap.size 103 #[ι s.cur,ι s.tgt] _ _ rfl rfl (xh (qr J.o 1) _) underlying103 rfl ξ) rfl ?_;exact⟨rfl,(xt _ _ _).to_more (I.o.dr 1) (λk e=>by rw[e];exact ϕ _)⟩
def LnX.setL (h:LnX N w k vo s) (a:qk (λb=>b=k.L) w w') (J:w'.heap[k.L]? =ϊ (.cells (j9 k vo s') 153 (0,0)))
  (e:s'.room=s.room/\s'.A=s.A/\s'.B=s.B/\s'.C=s.C/\s'.W=s.W) (ah:UL s'):LnX (xy N w w') w' k vo s':=by
 obtain⟨⟨O,U,Y,aa,ab,ac⟩,_⟩:=h.dist;obtain⟨G,ad,ae,af,ag⟩:=e;have H: ∀b,b=k.L->lnE N k vo b:=λb d=>uD (ϐ d)
 have I: ∀b,lnE (xy N w w') k vo b->lnE N k vo b∨w'.heap.size<=b:=λb d=>ϐ (xT h.own (λ_ e=>ϐ e) d)
 refine h.make a.size J ?_ ?_ ?_ ?_ ah
 ·rw[G,ad];exact h.r1.step a (C6 O) (C6 U) H I
 ·rw[G,ae];exact h.r2.step a (C6 Y) (C6 aa) H I
 ·rw[G,af];exact h.r3.step a (C6 ab) (C6 ac) H I
 ·rw[ag];exact h.rows (a.mono λb d=>ϐ d)
def Hl (h:LnX N w k vo s) (n:Int):Calls prog 91 #[γ k.L,ι n] w λe w'=>e= .returned (ι (jA s n).2)/\LnX (xy N w w') w' k vo (jA s n).1/\qk N w w':=by
 have I:=κ h;have ak:k.L<w.heap.size:=qq h.blk;cases ht:je n with
 | false=>
  have aa:=κ ht;have O:jA s n=(s,1):=by unfold jA;rw[ϒ ht]
  rw[O];clear O ht h
  go_enter func91,ntmps91
  go_wp2_with (go_at_call 151;(go_call zp n _ as e w1 ⟨rfl,rfl⟩;rw[aa.o]))
  go_ret;exact⟨rfl,I.o.grow (qh.refl _),qk.refl _ _⟩
 | true=>
  have aa:=κ ht;cases hg:s.gone with
  | true=>
   have O:jA s n=(s,7):=by unfold jA;rw[ώ (by rw[ht];decide),ϒ hg]
   have J:=Qy h;rw[hg] at J;have J:=κ J;rw[O];clear O ht h hg
   go_enter func91,ntmps91
   go_wp2_with (first | (go_at_call 151;(go_call zp n _ as e w1 ⟨rfl,rfl⟩;rw[aa.o])) | (go_at_call 69;(go_call J.o as e w2 ⟨rfl,U⟩;have ac:=κ U;clear U)))
   go_ret;exact⟨rfl,I.o.grow ac.o,qk.of_more ac.o⟩
  | false=>
   have O:jA s n=({s with wanted:=ό,cur:=if s.wanted then s.cur else -1,tgt:=n},0):=by unfold jA;rw[ώ (by rw[ht];decide),ώ (by rw[hg];decide)]
   have J:=Qy h;rw[hg] at J;have J:=κ J;rw[O];clear O ht h hg;cases hw:s.wanted with
   | true=>
    have ad:=κ hw;clear hw
    go_enter func91,ntmps91
    go_wp2_with (first | (go_at_call 151;(go_call zp n _ as e w1 ⟨rfl,O⟩;subst w1;rw[aa.o])) | (go_at_call 69;(go_call J.o as e w2 ⟨rfl,U⟩;have ac:=κ U;have Y:=κ (qj U I.o.blk);clear U;have c4:w2.cell? ⟨k.L,4,ϋ⟩=ϊ (μ ό):=(by rw[<-ad.o];exact qi Y.o 4 rfl);have c5:w2.cell? ⟨k.L,5,ϋ⟩=ϊ (ι s.cur):=qi Y.o 5 rfl;have af:w2.cell? ⟨k.L,6,ϋ⟩=ϊ (ι s.tgt):=qi Y.o 6 rfl)) | (go_at_call 152;(go_call JH s.cur s.tgt n aa.o _ as e d ⟨rfl,ab⟩;have ae:Hid (qh w d):=κ (ac.o.trans ab);have G:=κ (qj ab Y.o);clear ab;have c5:d.cell? ⟨k.L,5,ϋ⟩=ϊ (ι s.cur):=qi G.o 5 rfl;have af:d.cell? ⟨k.L,6,ϋ⟩=ϊ (ι s.tgt):=qi G.o 6 rfl;have c4:d.cell? ⟨k.L,4,ϋ⟩=ϊ (μ s.wanted):=qi G.o 4 rfl;have ah:d.frozen? ⟨k.L,4,ϋ⟩=ύ:=ql G.o 4;have ai:d.frozen? ⟨k.L,5,ϋ⟩=ύ:=ql G.o 5;have aj:d.frozen? ⟨k.L,6,ϋ⟩=ύ:=ql G.o 6)))
    go_ret;have A:qk (λb=>b=k.L) w (((d.setCell ⟨k.L,5,ϋ⟩ (ι s.cur)).setCell ⟨k.L,6,ϋ⟩ (ι n)).setCell ⟨k.L,4,ϋ⟩ (μ ό)):=(((qk.of_more (S:=λb=>b=k.L) ae.o).set (p:=⟨k.L,5,ϋ⟩) rfl _).set (p:=⟨k.L,6,ϋ⟩) rfl _).set (p:=⟨k.L,4,ϋ⟩) rfl _;have H:=I.o.ok;exact⟨rfl,I.o.setL A (qF (qt (qt (qt G.o 5 _) 6 _) 4 _) (by rfl)) ⟨rfl,rfl,rfl,rfl,rfl⟩ ⟨H.most,H.row,H.lt,H.sq,H.src⟩,A.mono λb ag=>by rw[ag];exact I.o.muts _ (ϐ rfl)⟩
   | false=>
    have ad:=κ hw;clear hw
    go_enter func91,ntmps91
    go_wp2_with (first | (go_at_call 151;(go_call zp n _ as e w1 ⟨rfl,O⟩;subst w1;rw[aa.o])) | (go_at_call 69;(go_call J.o as e w2 ⟨rfl,U⟩;have ac:=κ U;have Y:=κ (qj U I.o.blk);clear U;have c4:w2.cell? ⟨k.L,4,ϋ⟩=ϊ (μ ύ):=(by rw[<-ad.o];exact qi Y.o 4 rfl);have c5:w2.cell? ⟨k.L,5,ϋ⟩=ϊ (ι s.cur):=qi Y.o 5 rfl;have af:w2.cell? ⟨k.L,6,ϋ⟩=ϊ (ι s.tgt):=qi Y.o 6 rfl)) | (go_at_call 153;(go_call VE n aa.o _ as e d ⟨rfl,ab⟩;have ae:Hid (qh w d):=κ (ac.o.trans ab);have G:=κ (qj ab Y.o);clear ab;have c5:d.cell? ⟨k.L,5,ϋ⟩=ϊ (ι s.cur):=qi G.o 5 rfl;have af:d.cell? ⟨k.L,6,ϋ⟩=ϊ (ι s.tgt):=qi G.o 6 rfl;have c4:d.cell? ⟨k.L,4,ϋ⟩=ϊ (μ s.wanted):=qi G.o 4 rfl;have ah:d.frozen? ⟨k.L,4,ϋ⟩=ύ:=ql G.o 4;have ai:d.frozen? ⟨k.L,5,ϋ⟩=ύ:=ql G.o 5;have aj:d.frozen? ⟨k.L,6,ϋ⟩=ύ:=ql G.o 6)))
    go_ret;have A:qk (λb=>b=k.L) w (((d.setCell ⟨k.L,5,ϋ⟩ (ι (-1))).setCell ⟨k.L,6,ϋ⟩ (ι n)).setCell ⟨k.L,4,ϋ⟩ (μ ό)):=(((qk.of_more (S:=λb=>b=k.L) ae.o).set (p:=⟨k.L,5,ϋ⟩) rfl _).set (p:=⟨k.L,6,ϋ⟩) rfl _).set (p:=⟨k.L,4,ϋ⟩) rfl _;have H:=I.o.ok;exact⟨rfl,I.o.setL A (qF (qt (qt (qt G.o 5 _) 6 _) 4 _) (by rfl)) ⟨rfl,rfl,rfl,rfl,rfl⟩ ⟨H.most,H.row,H.lt,H.sq,H.src⟩,A.mono λb ag=>by rw[ag];exact I.o.muts _ (ϐ rfl)⟩
def Mw (m d src sq st:Int) (n:Nat) (ac:m=n) (U:1<=n) (Y:n<=8) (af:1<=d) (ag:d<=10) (aB:U16 sq) (aC:U32 src) (w:World):Calls prog 88 #[θ #[ι m,ι d,ω src,φ sq,ω st]] w λe w'=> ∃L,e= .returned (.tuple #[γ L,ι 0])/\zZ (λb=>w.heap.size<=b/\b<w'.heap.size) w' L (Y0 n d src sq st)/\qh w w':=by
 have aI:=κ (DM m n ac U Y);have aJ:=κ (DN m n ac U Y);have aK:=κ (DL m n ac U Y);have aL:=κ (Ub d af ag);have aN:Hid (UL (Y0 n d src sq st)):=κ ⟨⟨af,ag⟩,⟨T9 _,(by show 0<=d;omega)⟩,λ_=>(by show 0<d;omega),aB,aC⟩;clear ac U Y af ag aB aC
 go_enter func88,ntmps88
 go_wp2_with (first | (go_at_call 146;(go_call aI.o _ as e w1 ⟨rfl,ay,ai⟩;have ao:Hid (qU 13 327 253 w1 (w.heap.size+1+1) (w.heap.size+1) n 0 [] 0 0 0 0 (List.replicate n (Γa:List Value))):=κ (by simpa using ay);have ar:=κ (qj ai (qp w (.cells #[ι m,ι d,ω src,φ sq,ω st] 199)));have aQ:Hid (qh w w1):=κ (Z0.trans ai);clear ai ay;have aS:w1.cell? ⟨w.heap.size,0,ϋ⟩=ϊ (ι m):=qi ar.o 0 rfl)) | (go_at_call 147;(go_call aJ.o _ as e w2 ⟨rfl,az,aj⟩;have ap:=κ az;have au:=κ (qj aj ar.o);have aw:Hid (qh w1 w2):=κ aj;clear aj az;have aS:w2.cell? ⟨w.heap.size,0,ϋ⟩=ϊ (ι m):=qi au.o 0 rfl)) | (go_at_call 148;(go_call aK.o _ as e ad ⟨rfl,aA,ak⟩;have aq:=κ aA;have av:=κ (qj ak au.o);have ae:Hid (qh w2 ad):=κ ak;clear ak aA;have c1:ad.cell? ⟨w.heap.size,1,ϋ⟩=ϊ (ι d):=qi av.o 1 rfl)) | (go_at_call 149;(go_call aL.o _ as e w4 ⟨rfl,am⟩;have aR:Hid (qh ad w4):=κ am;have aO:=κ (qj am av.o);clear am)))
 obtain⟨H,aa⟩:=ν (w4.alloc (.cells #[ι d,ι 0,ύ] 151));have ax:Hid (qh w4 H):=κ (by rw[<-aa];exact qh.alloc _ _);have aP:=κ (qj ax.o aO.o);have aH:Hid (H.heap[w4.heap.size]? =ϊ (.cells #[ι d,ι 0,ύ] 151 (0,0))):=κ (by rw[<-aa];exact qp w4 _);rw[aa];clear aa;have N:=λ(x:qu H)=>qj x.h aP.o
 have c2:=λx=>β2 (N x);have c3:=λx=>β3 (N x);have c4:=λx=>β4 (N x);clear N
 have aM: ∀x:qu H,x.w'.rangeAt w4.heap.size 0 [ι d,ι 0,ύ]:=λx=>jQ (qj x.h aH.o)
 refine zr H 15 [(0,ύ),(1,ύ),(2,ύ),(3,ύ),(4,ύ),(5,ύ),(6,ύ),(7,ύ),(8,ύ),(10,ύ),(9,ό),(11,ύ),(12,ό),(13,ύ),(14,ύ)] ξ ξ ?_
 refine Qq9 ?_
 refine jg rfl rfl (qo ρ) 151 (.tmp 8) rfl w4.heap.size 0 rfl [ι d,ι 0,ύ] _ (λw' aT=>by obtain⟨x,rfl⟩:=aT;exact aM x) underlying151 rfl ξ ?_;intro K G;go_simp;refine G _ ?_;clear G K
 (refine Ql ?_;intro K G)
 go_call ZW src sq st _ as e w6 ⟨rfl,aD⟩;have I:Hid (qh H w6):=κ ((qh.drewN _ _).trans aD);clear aD;refine⟨_,rfl,qo I.o,G _ _ ?_⟩;clear G K
 iterate 1 (refine qz rfl rfl (qo I.o) ?_;intro K G;go_big_quiet_op;go_big_quiet_on)
 (refine Ql ?_;intro K G)
 refine⟨qo (I.o.al _),G _ _ ?_⟩;clear G K
 iterate 2 (refine qz rfl rfl (qo (I.o.al _)) ?_;intro K G;go_big_quiet_op;go_big_quiet_on)
 refine qD ?_;go_wp2;refine bodyPost_ret (v:= .tuple #[γ w6.heap.size,ι 0]) (by simp[results,results88,go_sem]) rfl ?_;obtain⟨W7,ab⟩:=ν (w6.alloc (.cells #[δ ϋ 0 0,γ (w.heap.size+1+1),γ (w1.heap.size+1),γ (w2.heap.size+1),ύ,ι 0,ι 0,ω src,φ sq,ω st,ύ,ω 0,ω 0,ι d,ι 0,ύ] 153));have an:W7.heap[w6.heap.size]? =ϊ (.cells (j9 ⟨w6.heap.size,w.heap.size+1+1,w.heap.size+1,w1.heap.size+1,w1.heap.size,w2.heap.size+1,w2.heap.size⟩ (δ ϋ 0 0) (Y0 n d src sq st)) 153 (0,0)):=by rw[<-ab];exact qp w6 _
 have O:qh w6 W7:=by rw[<-ab];exact qh.alloc _ _
 have aU:w6.heap.size<W7.heap.size:=qq an;rw[ab];clear ab;have J:qh ad w6:=(aR.o.trans ax.o).trans I.o;have aW:=qq ao.o.ring;have aX:=qq ap.o.ring;have z3:=qq aq.o.ring;have aV:=J.size;have aE:=(ao.o.more ((aw.o.trans ae.o).trans (J.trans O)));have aF:=(ap.o.more (ae.o.trans (J.trans O)));have aG:=(aq.o.more (J.trans O));refine⟨_,rfl,⟨⟨w6.heap.size,w.heap.size+1+1,w.heap.size+1,w1.heap.size+1,w1.heap.size,w2.heap.size+1,w2.heap.size⟩,δ ϋ 0 0,rfl, ?_⟩,((aQ.o.trans aw.o).trans ae.o).trans (J.trans O)⟩;refine⟨λb ah=>ah.2,λb ah=> ?_,by simp only;omega,an,⟨_,_,_,_,_,_,_,aE,trivial⟩,⟨_,_,_,_,_,_,_,aF,trivial⟩,⟨_,_,_,_,_,_,_,aG,trivial⟩,jd.nil 2 ROu _ W7 0 _,aN.o⟩;rcases ah with e | (e | e) | (e | e) | (e | e)<;>(simp only at e;subst e;constructor<;>omega)
def JI {C:World->Prop} {l:List Oper} {T:Nat} {Q:Act->World->Prop} {k:Nat} {o:Oper} {t:Tr} {a:Act} (Y:l[k]? =ϊ o) (H:Region.wanted o (yielded l.toArray a.tmps)=ό) (J:C w)
  (d:TypeId) (x:Operand) (aa:o.op= .load d x) (b I:Nat) (ac:a.eval x= π (ϊ ⟨b,I,ϋ⟩)) (cs:List Value) (G:TypeDesc) (O: ∀w,C w->w.rangeAt b I cs)
  (ab:P.underlying d=ϊ G) (U:G.isRow=ό) (hi:(P.info? d).map (·.size)=ϊ cs.length)
  (h: ∀K:Act->Prop,(∀a,zG P l.toArray T C Q t a w->K a)->K (a.put o.dst (θ cs.toArray))):zG P l.toArray T C Q (.op k ύ t) a w:=
 qK Y H J λK N=>⟨θ cs.toArray,λw H=>by
  unfold Oper.quietAt execOp;simp only[aa,ac,Instr.loadAt,Instr.sureAddr,Sem.run_bind,Sem.run_pure,Result.andThen_ok,run_loadVar_mid w b I d cs G (O w H) ab U hi]
  exact⟨rfl,rfl⟩,h K N⟩
def CS (c t n:Int) (k:Bool) (w:World):Calls prog 198 #[θ #[ι c,ι t],ι n,k] w λe w'=>e= .returned (.tuple #[θ #[ι (xa c t n k).1,ι t],ι (xa c t n k).2.1,μ (xa c t n k).2.2])/\qh w w':=by
 by_cases h1:n=c
 ·have e:xa c t n k=(c,0,ύ):=by unfold xa;rw[ϒ h1]
  rw[e];exact Wg c t n k (by simp[h1]) (by simp[h1]) w
 ·by_cases h2:n=t
  ·cases k with
   | true=>
    have e:xa c t n ό=(n,0,ό):=by unfold xa;rw[ώ h1,ϒ h2,ϒ rfl]
    rw[e];exact Wh c t n ό (by simp[h1]) (by simp[h2]) rfl w
   | false=>
    have e:xa c t n ύ=(c,5,ύ):=by unfold xa;rw[ώ h1,ϒ h2,ώ ζ]
    rw[e];exact KZ c t n ύ (by simp[h1]) (by simp[h1]) (by simp[h2]) rfl w
  ·have e:xa c t n k=(c,4,ύ):=by unfold xa;rw[ώ h1,ώ h2]
   rw[e];exact CN c t n k (by simp[h1]) (by simp[h1]) (by simp[h2]) w
def VP (h:LnX N w k vo s) (G:zQ s 1=ύ):Calls prog 137 #[γ k.L] w λe w'=>e= .returned (.tuple #[ι 0,ι 0,ύ])/\qh w w':=by
 have d:=Vn h;rw[G] at d;have d:=κ d;clear G h
 go_enter func137,ntmps137
 go_wp2_with (go_at_call 74;(go_call d.o as e w1 ⟨rfl,H⟩;have I:=κ H;clear H))
 refine bodyPost_ret (v:= .tuple #[ι 0,ι 0,ύ]) (by simp[results,results137,go_sem]) rfl ?_;exact⟨rfl,I.o⟩
def Z6 (h:LnX N w k vo s) (be:zQ s 1=ό) (x:ItS) (T:List ItS) (bQ:s.A=x::T) (ae f:Int) (ao:Bool) (bw:xa s.cur s.tgt x.layer x.key=(ae,f,ao)) (z:Bool) (cn:(f==0)=z):
  Calls prog 137 #[γ k.L] w λe w'=>e= .returned (.tuple #[ι x.id,ι f,ό])/\LnX (xy N w w') w' k vo {s with A:=T,cur:=ae,B:=if z then s.B++[(x,ao)] else s.B}/\qk N w w':=by
 have H:=κ h;have aC:=Vn h;rw[be] at aC;have aC:=κ aC;have av:=CS s.cur s.tgt x.layer x.key;rw[bw] at av;have av:=κ av;have cj:s.B.length<s.room:=by
  have:=h.r2.fit.1;have bP:(decide (0<s.A.length)&&decide (¬s.B.length=s.room))=ό:=be;simp at bP;omega
 obtain⟨ax,co,aW,bK,aU,aV,bL,bd,aT⟩:=h.r1;rw[bQ] at aT;obtain⟨c,q,rfl,aE,bo⟩:=aT.uncons;have AQ:=κ bo;obtain⟨cq,cp,vp,rfl,⟨⟨os,ai,rfl,_⟩,⟨aj,ke,rfl,_⟩,⟨ak,ah,rfl,_⟩⟩,_,_⟩:=aE.read;unfold itC at aE bd;have bC:=κ aE;have bF:=κ bd;have ad:=κ h.dist;clear h be bw bd aE bo aT
 go_enter func137,ntmps137
 go_wp2_with (first | (go_at_call 74;(go_call aC.o as e w1 ⟨rfl,az⟩;have bH:=κ az;have bh:=κ (qj az H.o.blk);have cu:Hid (w.heap.size<=w1.heap.size):=κ az.size;have bE:=κ (bF.o.more az);clear az;have c1:w1.cell? ⟨k.L,1,ϋ⟩=ϊ (π (ϊ ⟨k.R1,0,ϋ⟩)):=qi bh.o 1 rfl)) | (go_at_call 197;(go_call Rx w1 k.R1 k.A1 s.room ax _ q aW bK aU aV bL bE.o as e w2 ⟨rfl,⟨aX,ag⟩,af⟩;have bk:=κ ag;have A2:Hid (qk (RgB k.R1 k.A1) w w2):=κ ((qk.of_more bH.o).trans af);have bi:Hid (w2.heap[k.L]? =ϊ (.cells (j9 k vo s) 153 (0,0))):=κ (af.blk bh.o (by obtain⟨⟨Y,ac,_⟩,_⟩:=ad.o;rintro(e | e)<;>omega));clear ag af)))
 obtain⟨J,aL⟩:=ν ((w2.alloc (.cells (Γj x os ai aj ke ak ah) 253)));have aw:Hid (qh w2 J):=κ (by rw[<-aL];exact qh.alloc _ _);have aQ:Hid (J.heap[w2.heap.size]? =ϊ (.cells (Γj x os ai aj ke ak ah) 253 (0,0))):=κ (by rw[<-aL];exact qp w2 _);have aO:=κ (qj aw.o bi.o);rw[aL];clear aL
 go_cut [7,8,9] from 21 (λcb cc cd bA=> ∃C,cb= γ C/\cc= ι f/\cd= μ ao/\qh J bA/\bA.heap[C]? =ϊ (.cells #[ι ae,ι s.tgt] 103 (0,0))/\J.heap.size<=C)
 case first=>
  have bG: ∀x:qu J,x.w'.rangeAt k.L 5 [ι s.cur,ι s.tgt]:=λx j v O=>by
   have d:=qj x.h aO.o
   match j,O with
   | 0,O=>exact qi d 5 O
   | 1,O=>exact qi d 6 O
  have ce: ∀y:qu J,y.w'.cell? ⟨w2.heap.size,1,ϋ⟩=ϊ (ι x.layer):=λy=>qi (qj y.h aQ.o) 1 rfl
  have bm: ∀y:qu J,y.w'.cell? ⟨w2.heap.size,2,ϋ⟩=ϊ (μ x.key):=λy=>qi (qj y.h aQ.o) 2 rfl
  refine ye J 17 (.op 0 ύ (.op 1 ύ (.op 2 ύ (.op 3 ύ (.op 4 ύ (.op 5 ύ (.op 6 ύ (.op 7 ύ (.br [8,13] λk=>if k=8 then .op 9 ύ (.op 10 ύ (.op 11 ύ (.op 12 ύ (.op 13 ό (.op 14 ό (.op 15 ύ (.op 16 ύ (.done)))))))) else .op 8 ό (.op 9 ύ (.op 10 ύ (.op 11 ύ (.op 12 ύ (.op 14 ό (.op 15 ύ (.op 16 ύ (.done))))))))))))))))) ξ ξ ?_
  iterate 3 (refine qK rfl rfl (qo ρ) ?_;intro K G;go_big_quiet_op;go_big_quiet_on)
  refine JI rfl rfl (qo ρ) 103 (.tmp 24) rfl k.L 5 rfl [ι s.cur,ι s.tgt] _ (λw' bf=>by obtain⟨y,rfl⟩:=bf;exact bG y) underlying103 rfl ξ ?_;intro K G;go_simp;refine G _ ?_;clear G K
  repeat (first | (refine jl rfl rfl (qo ρ) ?_) | (refine qK rfl rfl (qo ρ) ?_;intro K G;go_big_quiet_op;go_big_quiet_on))
  refine gK ζ ?_ ?_
  ·(refine qV rfl rfl ?_;intro K G;unfold jt;go_simp)
   go_call av.o _ as e w5 ⟨rfl,ap⟩;have I:Hid (qh J w5):=κ ((qh.drewN _ 1).trans ap);clear ap;refine⟨_,rfl,qo I.o,G _ _ ?_⟩;clear G K
   repeat (first | (refine jl rfl rfl (qo I.o) ?_) | (refine qK rfl rfl (qo I.o) ?_;intro K G;go_big_quiet_op;go_big_quiet_on))
   (refine qV rfl rfl ?_;intro K G;unfold jt;go_simp)
   refine⟨qo (I.o.al _),G _ _ ?_⟩;clear G K
   (refine qV rfl rfl ?_;intro K G;unfold jt;go_simp)
   refine⟨qo (by repeat (first | exact I.o.al _ | refine qh.st ?_ (by have:=I.o.size;simp;omega) _)),G _ _ ?_⟩;clear G K
   repeat (first | (refine jl rfl rfl (qo (by repeat (first | exact I.o.al _ | refine qh.st ?_ (by have:=I.o.size;simp;omega) _))) ?_) | (refine qK rfl rfl (qo (by repeat (first | exact I.o.al _ | refine qh.st ?_ (by have:=I.o.size;simp;omega) _))) ?_;intro K G;go_big_quiet_op;go_big_quiet_on))
   refine zD ?_;go_wp2;go_meet;exact⟨_,rfl,rfl,rfl,I.o.al _,qp w5 _,I.o.size⟩
  ·(refine qV rfl rfl ?_;intro K G;unfold jt;go_simp)
   refine⟨qo ρ,G _ _ ?_⟩;clear G K
   (refine qV rfl rfl ?_;intro K G;unfold jt;go_simp)
   go_call av.o _ as e w5 ⟨rfl,ap⟩;have I:Hid (qh J w5):=κ (((qh.drewN _ 1).al _).trans ap);have au:Hid (w5.heap[J.heap.size]? =ϊ (.cells #[ι 0,ι 0] 103 (0,0))):=κ (qj ap (qH rfl));clear ap;have bM:w5.cell? ⟨J.heap.size,0,ϋ⟩=ϊ (ι 0):=qi au.o 0 rfl;have Y:w5.cell? ⟨J.heap.size,1,ϋ⟩=ϊ (ι 0):=qi au.o 1 rfl;have e0:w5.frozen? ⟨J.heap.size,0,ϋ⟩=ύ:=ql au.o 0;have aH:w5.frozen? ⟨J.heap.size,1,ϋ⟩=ύ:=ql au.o 1;refine⟨_,rfl,qo I.o,G _ _ ?_⟩;clear G K
   repeat (first | (refine jl rfl rfl (qo I.o) ?_) | (refine qK rfl rfl (qo I.o) ?_;intro K G;go_big_quiet_op;go_big_quiet_on))
   (refine qV rfl rfl ?_;intro K G;unfold jt;go_simp)
   refine⟨qo ((I.o.st (ϕ _) _).st (ϕ _) _),G _ _ ?_⟩;clear G K
   repeat (first | (refine jl rfl rfl (qo ((I.o.st (ϕ _) _).st (ϕ _) _)) ?_) | (refine qK rfl rfl (qo ((I.o.st (ϕ _) _).st (ϕ _) _)) ?_;intro K G;go_big_quiet_op;go_big_quiet_on))
   refine zD ?_;go_wp2;go_meet;exact⟨_,rfl,rfl,rfl,(I.o.st (ϕ _) _).st (ϕ _) _,qF (qt (qt au.o 0 _) 1 _) rfl,ϕ _⟩
 case rest=>
 obtain⟨C,rfl,rfl,rfl,aN,bu,ck⟩:=hcut;have aD:=κ aN;have bj:=κ bu;have an:=κ (qj aN aO.o);have aS:=κ (qj aN aQ.o);clear aN bu;have cl:k.L<C:=by have:=qq aO.o;omega
 have bM:wc.cell? ⟨C,0,ϋ⟩=ϊ (ι ae):=qi bj.o 0 rfl;have Y:wc.cell? ⟨C,1,ϋ⟩=ϊ (ι s.tgt):=qi bj.o 1 rfl;have c5:wc.cell? ⟨k.L,5,ϋ⟩=ϊ (ι s.cur):=qi an.o 5 rfl;have cf:wc.cell? ⟨k.L,6,ϋ⟩=ϊ (ι s.tgt):=qi an.o 6 rfl;have aI:wc.frozen? ⟨k.L,5,ϋ⟩=ύ:=ql an.o 5;have ch:wc.frozen? ⟨k.L,6,ϋ⟩=ύ:=ql an.o 6;have cr:wc.cell? ⟨w2.heap.size,0,ϋ⟩=ϊ (ι x.id):=qi aS.o 0 rfl;have aM: ¬w2.heap.size=k.L:=by have:=qq bi.o;omega
 cases z
 ·go_wp2;refine bodyPost_ret (v:= .tuple #[ι x.id,ι f,ό]) (by simp[results,results137,go_sem]) rfl ?_;obtain⟨W6,U⟩:=ν ((wc.setCell ⟨k.L,5,ϋ⟩ (ι ae)).setCell ⟨k.L,6,ϋ⟩ (ι s.tgt));have aA:Hid (qk (λb=>b=k.L∨RgB k.R1 k.A1 b) w W6):=κ (by rw[<-U];exact((((A2.o.mono (S':=λb=>b=k.L∨RgB k.R1 k.A1 b) λb d=>ϓ d).more (aw.o.trans aD.o)).set (p:=⟨k.L,5,ϋ⟩) (ϐ rfl) _).set (p:=⟨k.L,6,ϋ⟩) (ϐ rfl) _));have aB:Hid (W6.heap[k.L]? =ϊ (.cells (j9 k vo {s with A:=T,cur:=ae}) 153 (0,0))):=κ (by rw[<-U];exact qF (qt (qt an.o 5 _) 6 _) rfl);have aR:Hid (W6.heap[w2.heap.size]? =ϊ (.cells (Γj x os ai aj ke ak ah) 253 (0,0))):=κ (by rw[<-U];exact qs (qs aS.o ⟨k.L,5,ϋ⟩ _ aM) ⟨k.L,6,ϋ⟩ _ aM)
  have aP:Hid (qU 13 327 253 W6 k.R1 k.A1 s.room ((ax+1)%s.room) q aW _ aU aV _):=κ (by
   obtain⟨⟨Y,ac,_⟩,_⟩:=ad.o;rw[<-U]
   exact((bk.o.more (aw.o.trans aD.o)).away (S:=λb=>b=k.L) (((qk.refl (λb=>b=k.L) wc).set (p:=⟨k.L,5,ϋ⟩) rfl _).set (p:=⟨k.L,6,ϋ⟩) rfl _) (C6 Y) (C6 ac)))
  rw[U];clear U;have am:qk (λb=>b=k.L∨RgB k.R1 k.A1 b) w W6:=aA.o;obtain⟨⟨Y,ac,aF,aG,aY,aZ⟩,⟨aH,ba,bb,bc,aI⟩,⟨bS,bT,bU,bV⟩,⟨bW,bX,bY⟩,⟨bZ,ca⟩,_⟩:=ad.o;have ab:qk k.muts w W6:=am.mono λb d=>by rcases d with e | e;exact ϐ e;exact ϓ (ϐ e)
  have ar:qk (lnM k vo) w W6:=ab.mono λb d=>ϐ d
  have O: ∀b,vo.ownBlock=ϊ b->vo.ownBlock=ϊ b∨w.heap.size<=b:=λb d=>ϐ d
  have aK: ∀b,(λb=>b=k.L∨RgB k.R1 k.A1 b) b->lnE N k vo b:=λb d=>uD (by rcases d with e | e;exact ϐ e;exact ϓ (ϐ e))
  have aa:=H.o.ok;exact⟨rfl,H.o.make ab.size aB.o ⟨_,_,_,_,_,_,_,aP.o,AQ.o.mono λc y ay=>H.o.held ay ar O⟩ (H.o.r2.step am (by rintro(e | e | e)<;>omega) (by rintro(e | e | e)<;>omega) aK λb d=>ϐ (xT H.o.own O d)) (H.o.r3.step am (by rintro(e | e | e)<;>omega) (by rintro(e | e | e)<;>omega) aK λb d=>ϐ (xT H.o.own O d)) (H.o.rows ab) ⟨aa.most,aa.row,aa.lt,aa.sq,aa.src⟩,ab.mono λb d=>H.o.muts b d⟩
 ·go_wp2;obtain⟨W6,U⟩:=ν ((wc.setCell ⟨k.L,5,ϋ⟩ (ι ae)).setCell ⟨k.L,6,ϋ⟩ (ι s.tgt));have aA:Hid (qk (λb=>b=k.L∨RgB k.R1 k.A1 b) w W6):=κ (by rw[<-U];exact((((A2.o.mono (S':=λb=>b=k.L∨RgB k.R1 k.A1 b) λb d=>ϓ d).more (aw.o.trans aD.o)).set (p:=⟨k.L,5,ϋ⟩) (ϐ rfl) _).set (p:=⟨k.L,6,ϋ⟩) (ϐ rfl) _));have aB:Hid (W6.heap[k.L]? =ϊ (.cells (j9 k vo {s with A:=T,cur:=ae,B:=s.B++[(x,ao)]}) 153 (0,0))):=κ (by rw[<-U];exact qF (qt (qt an.o 5 _) 6 _) rfl);have aR:Hid (W6.heap[w2.heap.size]? =ϊ (.cells (Γj x os ai aj ke ak ah) 253 (0,0))):=κ (by rw[<-U];exact qs (qs aS.o ⟨k.L,5,ϋ⟩ _ aM) ⟨k.L,6,ϋ⟩ _ aM)
  have aP:Hid (qU 13 327 253 W6 k.R1 k.A1 s.room ((ax+1)%s.room) q aW _ aU aV _):=κ (by
   obtain⟨⟨Y,ac,_⟩,_⟩:=ad.o;rw[<-U]
   exact((bk.o.more (aw.o.trans aD.o)).away (S:=λb=>b=k.L) (((qk.refl (λb=>b=k.L) wc).set (p:=⟨k.L,5,ϋ⟩) rfl _).set (p:=⟨k.L,6,ϋ⟩) rfl _) (C6 Y) (C6 ac)))
  rw[U];clear U;obtain⟨aJ,bg,bs,aX,bp,bq,bt,ag,af⟩:=H.o.r2;have bB:=κ af;have bR:bg.length<s.room:=by have:=af.len;omega
  have R2:Hid (qU 14 330 255 W6 k.R2 k.A2 s.room aJ bg bs aX bp bq bt):=κ (ag.away aA.o (by obtain⟨⟨Y,ac,aF,aG,aY,aZ⟩,⟨aH,ba,bb,bc,aI⟩,⟨ax,aJ,bN,bO⟩,_⟩:=ad.o;rintro(e | e | e)<;>omega) (by obtain⟨⟨Y,ac,aF,aG,aY,aZ⟩,⟨aH,ba,bb,bc,aI⟩,⟨ax,aJ,bN,bO⟩,_⟩:=ad.o;rintro(e | e | e)<;>omega));have cm:k.R2<w.heap.size:=qq ag.ring;have ci:k.A2<w.heap.size:=qq ag.row;have cv:w.heap.size<=w2.heap.size:=A2.o.size;clear ag af;have bx: ¬RgB k.R2 k.A2 k.L:=by
   obtain⟨⟨Y,ac,aF,aG,_⟩,_⟩:=ad.o;rintro(e | e)<;>omega
  have bz: ¬RgB k.R2 k.A2 w2.heap.size:=by rintro(e | e)<;>omega
  have bm: ∀y:qC (RgB k.R2 k.A2) W6,y.w'.cell? ⟨k.L,2,ϋ⟩=ϊ (π (ϊ ⟨k.R2,0,ϋ⟩)):=λy=>qi (y.h.blk aB.o bx) 2 rfl
  have bl: ∀y:qC (RgB k.R2 k.A2) W6,y.w'.rangeAt w2.heap.size 0 (Γj x os ai aj ke ak ah):=λy=>jQ (y.h.blk aR.o bz)
  refine QN (RgB k.R2 k.A2) W6 8 8 [7] ?_
  refine Qs4 ?_
  refine jg rfl rfl (qn σ) 253 (.tmp 5) rfl w2.heap.size 0 rfl (Γj x os ai aj ke ak ah) _ (λw' bf=>by obtain⟨y,rfl⟩:=bf;exact bl y) underlying253 rfl ξ ?_;intro K G;go_simp;refine G _ ?_;clear G K
  refine Qs2 ?_
  (refine Ql ?_;intro K G)
  go_call WB _ k.R2 k.A2 s.room aJ bg bs aX bp bq bt (R2.o.more (qh.drewN W6 1)) bR (Γk x os ai aj ke ak ah ao) ⟨rfl,by simp[Value.oneCell']⟩ as e w8 ⟨rfl,⟨cg,bv⟩,bn⟩;have bI:=κ bv;have aq:Hid (qk (RgB k.R2 k.A2) W6 w8):=κ (((qk.refl _ W6).drewN 1).trans bn);clear bv bn;refine⟨_,rfl,qn aq.o,G _ _ ?_⟩;clear G K bm bl;refine qD ?_;have bD:=κ (aq.o.blk aB.o bx);have bJ:=κ (aq.o.blk aR.o bz);have ct:w8.cell? ⟨w2.heap.size,0,ϋ⟩=ϊ (ι x.id):=qi bJ.o 0 rfl;go_wp2;refine bodyPost_ret (v:= .tuple #[ι x.id,ι f,ό]) (by simp[results,results137,go_sem]) rfl ?_;have am:qk (λb=>b=k.L∨RgB k.R1 k.A1 b∨RgB k.R2 k.A2 b) w w8:=(aA.o.mono λb d=>by rcases d with e | e;exact ϐ e;exact ϓ (ϐ e)).trans (aq.o.mono λb d=>ϓ (ϓ d));obtain⟨⟨Y,ac,aF,aG,aY,aZ⟩,⟨aH,ba,bb,bc,aI⟩,⟨bS,bT,bU,bV⟩,⟨bW,bX,bY⟩,⟨bZ,ca⟩,_⟩:=ad.o;have ab:qk k.muts w w8:=am.mono λb d=>by rcases d with e | e | e;exact ϐ e;exact ϓ (ϐ e);exact ϓ (ϓ (ϐ e))
  have ar:qk (lnM k vo) w w8:=ab.mono λb d=>ϐ d
  have O: ∀b,vo.ownBlock=ϊ b->vo.ownBlock=ϊ b∨w.heap.size<=b:=λb d=>ϐ d
  have aK: ∀b,(λb=>b=k.L∨RgB k.R1 k.A1 b∨RgB k.R2 k.A2 b) b->lnE N k vo b:=λb d=>uD (by rcases d with e | e | e;exact ϐ e;exact ϓ (ϐ e);exact ϓ (ϓ (ϐ e)))
  have aa:=H.o.ok;exact⟨rfl,H.o.make ab.size bD.o ⟨_,_,_,_,_,_,_,aP.o.away aq.o Xaa Xaa,AQ.o.mono λc y ay=>H.o.held ay ar O⟩ ⟨_,_,_,_,_,_,_,bI.o,(bB.o.mono λc y ay=>H.o.held ay ar O).snoc (H.o.held (jv.chosen ao bC.o) ar O)⟩ (H.o.r3.step am (by rintro(e | (e | e) | (e | e))<;>omega) (by rintro(e | (e | e) | (e | e))<;>omega) aK λb d=>ϐ (xT H.o.own O d)) (H.o.rows ab) ⟨aa.most,aa.row,aa.lt,aa.sq,aa.src⟩,ab.mono λb d=>H.o.muts b d⟩
def Ar (h:LnX N w k vo s):Calls prog 137 #[γ k.L] w λe w'=>e= .returned (.tuple #[ι (qP s).2.1,ι (qP s).2.2.1,μ (qP s).2.2.2])/\LnX (xy N w w') w' k vo (qP s).1/\qk N w w':=by
 cases hm:zQ s 1 with
 | false=>
  have e:qP s=(s,0,0,ύ):=by unfold qP;rw[ϒ hm]
  rw[e];refine(VP h hm).mono ?_;rintro e w' ⟨rfl,m⟩;exact⟨rfl,h.grow m,qk.of_more m⟩
 | true=>
  cases hA:s.A with
  | nil=>
   have:(decide (0<s.A.length)&&decide (¬s.B.length=s.room))=ό:=hm;rw[hA] at this;simp at this
  | cons x T=>
   have e:qP s=({s with A:=T,cur:=(xa s.cur s.tgt x.layer x.key).1,B:=if (xa s.cur s.tgt x.layer x.key).2.1=0 then s.B++[(x,(xa s.cur s.tgt x.layer x.key).2.2)] else s.B},x.id,(xa s.cur s.tgt x.layer x.key).2.1,ό):=by
    unfold qP;rw[ώ (by rw[hm];decide),hA]
   rw[e];rcases ht:xa s.cur s.tgt x.layer x.key with ⟨d,f,G⟩
   simp only;have:=Z6 h hm x T hA d f G ht (f==0) rfl
   simpa using this
def Xz (n s:Int):Byt (qy n s):=by
 unfold qy;split
 ·exact XG _ _
 ·exact xB
def MN (l:List Int):Byt (ssB l):=by
 induction l with
 | nil=>exact xB
 | cons x l ih=>exact yB (Xz _ _) ih
def Ip {p:Pk} (h:ud p):Byt (Xg p):=by
 unfold Xg uc Jd;refine yB (yB (yB (yB (yB (yB ?_ ?_) ?_) ?_) ?_) (MN _)) ?_
 all_goals try exact Xz _ _
 split
 ·exact yB (yB (Xz _ _) (Xz _ _)) h.ex
 ·exact xB
def UT {p:Pk} (h:ud p):Byt (pkB p):=yB (Ip h) h.pl
def qk.setNew {a b:World} (h:qk S a b) {p:Addr} (H:a.heap.size<=p.block) (v:Value):qk S a (b.setCell p v):=
 ⟨h.os,h.tape,h.output,by simpa [World.setCell] using h.size,λk d G=>by rw[Below.heap_setCell _ _ _ _ (λe=>by omega)];exact h.block k d G⟩
def V0 {e size n:Nat} (h:w.ownsRow base e size v n xs) (d:v.ownBlock=ϊ b):b<w.heap.size:=by
 rcases h.2 with ⟨rfl,_⟩ | ⟨g,cap,cur,rfl,_,G,_⟩
 ·cases d
 ·obtain rfl:g=b:=by injection d
  exact lt_of_block G
def kf (room:Nat) (q:List (List Value)) (x:List Value):List (List Value):=if q.length<room then q++[x] else q.tail++[x]
def DA (ae:World) (R A room f:Nat) (q:List (List Value)) (N I J H:Int) (css:List (List Value)) (ab:qU 2 332 56 ae R A room f q N I J H css)
  (ad: ∀c∈q,∃i G n d,c=[ι i,δ G n d]) (x:List Value) (ac:x.length=2/\ ∀u∈x,u.oneCell'=ό):
  ∃old G n d,(old=if q.length<room then 0 else (q.head?.map idN).getD 0)/\
  ∀w,qU 2 332 56 w R A room f q N I J H css->Calls prog 202 #[γ R,θ x.toArray] w λe w'=>e= .returned (.tuple #[θ #[ι old,δ G n d],(decide (¬q.length<room)),ι 0])/\
   (∃f' O aa css',qU 2 332 56 w' R A room f' (kf room q x) O I aa H css')/\qk (RgB R A) w w':=by
 by_cases hq:q.length<room
 ·refine⟨0,ϋ,0,0,by rw[ϒ hq],λw h=> ?_⟩;have U:decide (¬q.length<room)=ύ:=by simp[hq]
  have Y:kf room q x=q++[x]:=by unfold kf;rw[ϒ hq]
  rw[U,Y];refine(Wx w R A room f q N I J H css h hq x ac).mono ?_;rintro e w' ⟨rfl,⟨O,g⟩,a⟩;exact⟨rfl,⟨_,_,_,_,g⟩,a⟩
 ·have af:=ab.fits;have ag:=ab.pos;cases q with
  | nil=>simp at hq;omega
  | cons c T=>
   obtain⟨i,G,n,d,rfl⟩:=ad c η;refine⟨i,G,n,d,by rw[ώ hq];rfl,λw h=> ?_⟩;have U:decide (¬([ι i,δ G n d]::T).length<room)=ό:=by simpa using hq
   have Y:kf room ([ι i,δ G n d]::T) x=T++[x]:=by unfold kf;rw[ώ hq];rfl
   rw[U,Y];refine(Wy w R A room f [ι i,δ G n d] T N I J H css h τ x ac).mono ?_;rintro e w' ⟨rfl,⟨O,aa,g⟩,a⟩;exact⟨rfl,⟨_,_,_,_,g⟩,a⟩
def zR.tl {β:Type} {p:α->β->Prop} {l:List α} {m:List β} (h:zR p l m):zR p l.tail m.tail:=by
 cases l with
 | nil=>cases m with
  | nil=>exact trivial
  | cons b m=>exact h.elim
 | cons a l=>cases m with
  | nil=>exact h.elim
  | cons b m=>exact h.2
def BQ {room:Nat} {l:List α} {y:α} (a:zR (jv R D w) q l) (h:jv R D w c y):
  zR (jv R D w) (kf room q c) (if l.length<room then l++[y] else l.tail++[y]):=by
 unfold kf;rw[a.len];split
 ·exact a.snoc h
 ·exact a.tl.snoc h
def LnX.fresh (h:LnX N w k vo s) {G:IntKind} {l:List Int} (O:SlI G w' v l) (J: ∀b,v.ownBlock=ϊ b->w.heap.size<=b/\b<w'.heap.size) (U: ∀b,vo'.ownBlock=ϊ b->vo.ownBlock=ϊ b) {w'':World} (a:qk (lnE (xy N w w') k vo') w' w''):SlI G w'' v l:=by
 refine O.off (λb e d=> ?_) a;obtain⟨H,I⟩:=J b e;rcases d with d | d
 ·have:=h.own b (h.muts b (d (ϓ ⟨H,I⟩)));omega
 ·have:=h.own b (h.vob (U b d)).1;omega
def WH (a:zR (jv ROu D w) q l): ∀c∈q,∃i G n d,c=[ι i,δ G n d]:=λc H=>by
 obtain⟨o,_,I⟩:=a.mem c H;obtain⟨v,rfl,⟨G,d,rfl,_⟩,_⟩:=I.read;exact⟨_,_,_,_,rfl⟩
def DE (a:zR (jv ROu D w) q l):(q.head?.map idN).getD 0=(l.head?.map (·.1)).getD 0:=by
 cases l with
 | nil=>rw[a.nil_r];rfl
 | cons o l=>
  obtain⟨c,q',rfl,d,_⟩:=a.uncons;obtain⟨v,rfl,_⟩:=d.read;rfl
end Go.Proofs.YtlmllmonabafjaaGreatDoor
