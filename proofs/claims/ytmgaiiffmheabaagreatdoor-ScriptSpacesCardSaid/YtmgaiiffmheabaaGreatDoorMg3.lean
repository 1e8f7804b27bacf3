/- x -/
import Derived.Test.YtmgaiiffmheabaaGreatDoorMg2
namespace Go.Proofs.YtmgaiiffmheabaaGreatDoor
open Option renaming some->ϊ,none->ϋ
open Bool renaming true->ό,false->ύ
open Go.Value renaming bool->μ,slice->δ,pointer->π,agg->θ
open Go.IntKind renaming i64->ι,u8->υ,u16->φ,u32->ω,i32->χ,u64->ψ
open _root_.Go.Proofs.Tryz
set_option linter.all false
set_option maxHeartbeats 8000000
open Go.RowKit
set_option maxRecDepth 100000
variable {w w':World} {q:List (List Value)} {xs c:List Value} {N S D:Nat->Prop} {vo v vo':Value} {s s':LnS} {b base:Nat} {l:List (Int×List Int)} {α:Type} {R:qL α}
def Ah (c:List Value) (h:c.length=14): ∃a0 a1 a2 a3 a4 a5 a6 a7 a8 a9 a10 a11 a12 a13,c=[a0,a1,a2,a3,a4,a5,a6,a7,a8,a9,a10,a11,a12,a13]:=by
 match c,h with
 | [a0,a1,a2,a3,a4,a5,a6,a7,a8,a9,a10,a11,a12,a13],_=>exact⟨a0,a1,a2,a3,a4,a5,a6,a7,a8,a9,a10,a11,a12,a13,rfl⟩
def YD {e n m:Nat} (h:w.ownsRow base e n v m xs) (a:jt S w w') (H: ∀b,base<=b-> ¬S b):w'.ownsRow base e n v m xs:=by
 obtain⟨d,G⟩:=h;refine⟨d, ?_⟩;rcases G with h | ⟨b,cap,cur,e1,hb,hg,rest⟩
 ·exact ϑ h
 ·exact ϕ ⟨b,cap,cur,e1,hb,a.blk hg (H b hb),rest⟩
def DP {e size n:Nat} (h:w.ownsRow base e size v n xs) (d:v.ownBlock=ϊ b):base<=b:=by
 rcases h.2 with ⟨rfl,_⟩ | ⟨g,cap,cur,rfl,G,_⟩
 ·cases d
 ·obtain rfl:g=b:=by injection d
  exact G
def BU {e size n:Nat} (h:w.ownsRow base e size v n xs): ∃oa cap,v= δ oa n cap:=by
 rcases h.2 with ⟨rfl,d⟩ | ⟨g,cap,cur,rfl,_⟩
 ·exact⟨ϋ,0,by rw[d]⟩
 ·exact⟨_,cap,rfl⟩
def QwI (w:World) (R A room first:Nat) (q:List (List Value)) (J N H I:Int) (css:List (List Value)) (h:qN 14 277 204 w R A room first q J N H I css):
  Calls prog 235 #[γ R] w λe w'=> ∃v,e= .returned v/\w'.ownsRow w.heap.size 204 14 v q.length q.flatten/\(∃first' cg' css',qN 14 277 204 w' R A room first' [] J N H cg' css')/\jt (RgB R A) w w':=by
 obtain⟨aP,aQ,aR,aS,aT⟩:=info_parts (P:=prog) (e:=204) (z:= Γb) (size:=14) (bytes:=128) ξ;have aB:=κ h;have aX:R<w.heap.size:=qn h.ring;have aW:A<w.heap.size:=qn h.row;have bd:w.cell? ⟨R,2,ϋ⟩=ϊ (ι q.length):=qa h.ring 2 rfl;have bb:(q.length:Int)<=8:=by have:=h.fits;have:=h.pos.2;omega
 have aH:=κ h.qall;clear h
 go_enter func235,ntmps235
 go_wp2
 go_loopw [3,8] (λu an wr=> ∃(j f:Nat) (cs:List (List Value)),j<=q.length/\an= ι j/\(∃ay ax ar,u= δ ay ax ar)/\wr.ownsRow w.heap.size 204 14 u j (q.take j).flatten/\qN 14 277 204 wr R A room f (q.drop j) J N H I cs/\jt (RgB R A) w wr) (λ_ an _=>q.length-(intOf an).toNat)
 case atStart=>exact⟨0,first,css,τ,rfl,⟨_,_,_,rfl⟩,World.ownsRow_nil w _ _ _,aB.o,jt.refl _ _⟩
 case round=>
  obtain⟨j,f,cs,aZ,rfl,⟨ay,ax,ar,rfl⟩,d,aw,av⟩:=hrel;have ao:=κ d;have G:=κ aw;have ai:=κ av;clear d aw av;by_cases hlt:j<q.length
  ·have ak:q.drop j=q[j]::q.drop (j+1):=D1 hlt;have am:q.take (j+1)=q.take j++[q[j]]:=by rw[B9,ϖ hlt];rfl
   have ah:=aH.o q[j] (ϥ hlt);have ba:(j:Int)<(q.length:Int):=by omega
   obtain⟨c,aJ⟩: ∃c,Hid (c=q[j]):=⟨_,κ rfl⟩;rw[<-aJ.o] at ak am ah;have aE:=κ (ak▸G.o);have aF:=κ am;have aY:c.toArray.size=14:=by simpa using ah.1
   clear ak am G;obtain⟨a0,U,ad,a3,a4,a5,ae,af,ag,a9,Y,aa,ab,ac,rfl⟩:=Ah c ah.1
   go_wp2_with (first | (go_at_call 278;(go_call F6 wr R A room f [a0,U,ad,a3,a4,a5,ae,af,ag,a9,Y,aa,ab,ac] (q.drop (j+1)) J N H I cs aE.o as e w5 ⟨rfl,au,a5⟩;have aC:=κ au;have az:=κ a5;have O:=κ (YD ao.o a5 (λb aj e=>by rcases e with e | e<;>omega));have aI:Hid (w.heap.size<=w5.heap.size):=κ (ϙ ai.o.size a5.size);clear au a5)) | (at_builtin;refine wpList_append_own_at _ rfl (.tmp 10) (.tmp 13) 275 rfl w.heap.size 204 aP (Γb) 14 128 underlying275 aQ aR aS aT rfl ζ _ j (q.take j).flatten rfl (YD O.o (jt.of_more X6) (λb _ e=>e)) ⟨w5.heap.size,0,ϋ⟩ 1 1 [a0,U,ad,a3,a4,a5,ae,af,ag,a9,Y,aa,ab,ac] rfl rfl (λi u aM=>by have:=xy (cs:=[a0,U,ad,a3,a4,a5,ae,af,ag,a9,Y,aa,ab,ac]) (t:=204) (qj w5 (.cells #[a0,U,ad,a3,a4,a5,ae,af,ag,a9,Y,aa,ab,ac] 204)) i u aM;rw[Addr.add_mid];exact this) ah.2 (by unfold maxLen;omega) τ (by have:=aI.o;simp;omega) ?_;intro bf w6 d al aK aN;have aG:=κ d;have aA:Hid (jt (RgB R A) w w6):=κ (((ai.o.trans az.o).alc _).grown al (λb aj=>DP O.o aj));have aD:Hid (qN 14 277 204 w6 R A room ((f+1)%room) (q.drop (j+1)) J N H I (cs.set f Γb)):=κ ((aC.o.more X6).away (jt.of_grown al) (λe=>by have:=DP O.o e;omega) (λe=>by have:=DP O.o e;omega));obtain⟨bc,aU,rfl⟩:=BU d;clear d al aK aN))
   go_roundw
   case rel=>exact⟨j+1,(f+1)%room,_,τ,by go_num,⟨_,_,_,rfl⟩,by rw[aF.o,J7];simpa using aG.o,aD.o,aA.o⟩
   case measure=>simp[intOf];omega
  ·obtain rfl:j=q.length:=by omega
   have be:wr.cell? ⟨R,7,ϋ⟩=ϊ (ι I):=qa G.o.ring 7 rfl;have aV:wr.frozen? ⟨R,7,ϋ⟩=ύ:=yw G.o.ring 7;go_wp2;go_ret;have aO:q.drop q.length=[]:=by simp
   have aL:q.take q.length=q:=by simp
   have aq:=G.o;have ap:=ao.o;rw[aO] at aq;rw[aL] at ap;exact⟨_,rfl,YD ap ((jt.refl (λb=>b=R) _).set rfl _) (λb aj e=>by omega),⟨_,_,_,aq.drained _⟩,ai.o.set (ϑ rfl) _⟩
def Fm (i:Int) (c:List Value) (d:c.length=13) (w:World):Calls prog 236 #[θ (ι i::c).toArray] w λe w'=>e= .returned (ι i)/\ql w w':=by
 obtain⟨a0,G,O,a3,a4,a5,U,Y,aa,a9,H,I,J,N,h⟩:=Ah (ι i::c) (by simp[d]);obtain⟨rfl,rfl⟩:a0= ι i/\c=[G,O,a3,a4,a5,U,Y,aa,a9,H,I,J,N]:=by
  injection h with h1 h2
  exact⟨h1.symm,h2⟩
 clear h d
 go_enter func236,ntmps236
 go_wp2;go_ret;exact⟨rfl,ρ⟩
section
open _root_.Go.Proofs.Tryz renaming func234->Ξa,ntmps234->Ξb,underlying204->Ξf
open _root_.Go.Proofs.YtmgaiiffmheabaaGreatDoor renaming Fm->Ξc,Ν14->Ξd,Ν204->Ξe,Γb->Ξg
def qfM (w:World) (v:Value) (q:List (List Value)) (base:Nat) (row:w.ownsRow base 204 14 v q.length q.flatten) (aa: ∀c∈q,∃i r,c= ι i::r/\r.length=13) (ai: ∀c∈q,∀u∈c,u.oneCell'=ό) (aN:q.length<=8):
  Calls prog 234 #[v,.func (.func 236) #[] #[]] w λe w'=>(∃v',e= .returned v'/\w'.ownsRow w.heap.size 3 1 v' (q.map idN).length ((q.map idN).map (Value.int .i64)))/\ql w w':=Ψ6
end
structure LnB where
 L:Nat
 R1:Nat
 A1:Nat
 R2:Nat
 A2:Nat
 R3:Nat
 A3:Nat
variable {k:LnB}
def LnB.muts (k:LnB) (b:Nat):Prop:=b=k.L∨RgB k.R1 k.A1 b∨RgB k.R2 k.A2 b∨RgB k.R3 k.A3 b
def jQ (k:LnB) (vo:Value) (s:LnS):Array Value:=
 #[vo,.pointer (ϊ ⟨k.R1,0,ϋ⟩),.pointer (ϊ ⟨k.R2,0,ϋ⟩),.pointer (ϊ ⟨k.R3,0,ϋ⟩),.bool s.wanted,.int .i64 s.cur,.int .i64 s.tgt,
  .int .u32 s.rw.src,.int .u16 s.rw.sq,.int .u32 s.rw.st,.bool s.rw.any,.int .u32 s.rw.last,.int .u32 s.rw.shift,.int .i64 s.most,.int .i64 s.row,.bool s.gone]
def lnD (N:Nat->Prop) (k:LnB) (b:Nat):Prop:=N b->k.muts b
def lnE (N:Nat->Prop) (k:LnB) (vo:Value) (b:Nat):Prop:=lnD N k b∨vo.ownBlock=ϊ b
def lnM (k:LnB) (vo:Value) (b:Nat):Prop:=k.muts b∨vo.ownBlock=ϊ b
def xf (N:Nat->Prop) (w w':World) (b:Nat):Prop:=N b∨(w.heap.size<=b/\b<w'.heap.size)
structure KM (s:LnS):Prop where
 most:1<=s.most/\s.most<=10
 row:0<=s.row/\s.row<=s.most
 lt:s.gone=ύ->s.row<s.most
 sq:U16 s.rw.sq
 src:U32 s.rw.src
structure LnX (N:Nat->Prop) (w:World) (k:LnB) (vo:Value) (s:LnS):Prop where
 own: ∀b,N b->b<w.heap.size
 muts: ∀b,k.muts b->N b
 dist:(k.L≠k.R1/\k.L≠k.A1/\k.L≠k.R2/\k.L≠k.A2/\k.L≠k.R3/\k.L≠k.A3)/\(k.R1≠k.A1/\k.R1≠k.R2/\k.R1≠k.A2/\k.R1≠k.R3/\k.R1≠k.A3)/\(k.A1≠k.R2/\k.A1≠k.A2/\k.A1≠k.R3/\k.A1≠k.A3)/\(k.R2≠k.A2/\k.R2≠k.R3/\k.R2≠k.A3)/\(k.A2≠k.R3/\k.A2≠k.A3)/\k.R3≠k.A3
 blk:w.heap[k.L]? =ϊ (.cells (jQ k vo s) 223 (0,0))
 r1:RgR 13 274 199 RIt (lnE N k vo) w k.R1 k.A1 s.room s.A
 r2:RgR 14 277 204 RCh (lnE N k vo) w k.R2 k.A2 s.room s.B
 r3:RgR 2 279 209 ROu (lnE N k vo) w k.R3 k.A3 s.room s.C
 o:je 2 ROu (lnD N k) w 0 209 vo s.W
 ok:KM s
def zw (N:Nat->Prop) (w:World) (L:Nat) (s:LnS):Prop:= ∃k vo,k.L=L/\LnX N w k vo s
def LnX.vob (h:LnX N w k vo s) (d:vo.ownBlock=ϊ b):N b/\ ¬k.muts b:=by
 have:=h.o.apart b d;unfold lnD at this;exact Classical.not_imp.1 this
def LnX.inN (h:LnX N w k vo s) (d:lnM k vo b):N b:=by
 rcases d with e | e
 ·exact h.muts b e
 ·exact(h.vob e).1
def Mc (d:lnM k vo b):lnE N k vo b:=by
 rcases d with e | e
 ·exact ϑ λ_=>e
 ·exact ϕ e
def kZ (d:k.muts b):lnE N k vo b:=ϑ λ_=>d
def LnX.away (h:LnX N w k vo s) (a:jt S w w') (O: ∀b,S b-> ¬N b):LnX N w' k vo s:=by
 have G: ∀b,k.muts b-> ¬S b:=λb d H=>O b H (h.muts b d)
 have I: ∀b,S b->lnE N k vo b:=λb H=>ϑ λJ=>ϧ J (O b H)
 refine⟨λb d=>ϗ (h.own b d) a.size,h.muts,h.dist,a.blk h.blk (G _ (ϑ rfl)), ?_, ?_, ?_, ?_,h.ok⟩
 ·exact h.r1.step a (G _ (ϕ (ϑ (ϑ rfl)))) (G _ (ϕ (ϑ (ϕ rfl)))) I (λb d=>ϑ d)
 ·exact h.r2.step a (G _ (ϕ (ϕ (ϑ (ϑ rfl))))) (G _ (ϕ (ϕ (ϑ (ϕ rfl))))) I (λb d=>ϑ d)
 ·exact h.r3.step a (G _ (ϕ (ϕ (ϕ (ϑ rfl))))) (G _ (ϕ (ϕ (ϕ (ϕ rfl))))) I (λb d=>ϑ d)
 ·exact h.o.step (a.mono λb H J=>ϧ J (O b H))
def LnX.on (h:LnX N w k vo s) (m:ql w w'):LnX N w' k vo s:=h.away (S:=λ_=>False) (jt.of_more m) (λ_ e=>e.elim)
def zw.away {L:Nat} (h:zw N w L s) (a:jt S w w') (d: ∀b,S b-> ¬N b):zw N w' L s:=by
 obtain⟨k,vo,e,x⟩:=h;exact⟨k,vo,e,x.away a d⟩
def zw.on {L:Nat} (h:zw N w L s) (m:ql w w'):zw N w' L s:=by
 obtain⟨k,vo,e,x⟩:=h;exact⟨k,vo,e,x.on m⟩
def xE (h: ∀b,N b->b<w.heap.size) (H: ∀b,vo'.ownBlock=ϊ b->vo.ownBlock=ϊ b∨w.heap.size<=b) (G:lnE (xf N w w') k vo' b):lnE N k vo b:=by
 rcases G with e | e
 ·exact ϑ λd=>e (ϑ d)
 ·rcases H b e with e1 | e1
  ·exact ϕ e1
  ·exact ϑ λd=>by have:=h b d;omega
def EP (G:lnD (xf N w w') k b):lnD N k b:=λd=>G (ϑ d)
def LnX.held {y:α} (h:LnX N w k vo s) (G:jw R (lnE N k vo) w c y) (a:jt (lnM k vo) w w') (H: ∀b,vo'.ownBlock=ϊ b->vo.ownBlock=ϊ b∨w.heap.size<=b):jw R (lnE (xf N w w') k vo') w' c y:=
 (G.step (a.mono λ_=>Mc)).other λ_ d=>ϑ (xE h.own H d)
def LnX.rows (h:LnX N w k vo s) (a:jt k.muts w w'):je 2 ROu (lnD (xf N w w') k) w' 0 209 vo s.W:=by
 have H:=h.o.step (a.mono λb d _=>d);obtain⟨⟨xs,o,r⟩,G⟩:=H;refine⟨⟨xs,o,λi hi=>(r i hi).other λb d=>ϑ (xE h.own (λ_ e=>ϑ e) d)⟩,λb d I=>G b d (EP I)⟩
def LnX.make (h:LnX N w k vo s) (Y:w.heap.size<=w'.heap.size)
  (G:w'.heap[k.L]? =ϊ (.cells (jQ k vo' s') 223 (0,0)))
  (J:RgR 13 274 199 RIt (lnE (xf N w w') k vo') w' k.R1 k.A1 s'.room s'.A)
  (O:RgR 14 277 204 RCh (lnE (xf N w w') k vo') w' k.R2 k.A2 s'.room s'.B)
  (U:RgR 2 279 209 ROu (lnE (xf N w w') k vo') w' k.R3 k.A3 s'.room s'.C)
  (I:je 2 ROu (lnD (xf N w w') k) w' 0 209 vo' s'.W) (H:KM s'):LnX (xf N w w') w' k vo' s':=
 ⟨λb d=>by
  rcases d with e | e
  ·exact ϗ (h.own b e) Y
  ·exact e.2,λb d=>ϑ (h.muts b d),h.dist,G,J,O,U,I,H⟩
def LnX.grow (h:LnX N w k vo s) (m:ql w w'):LnX (xf N w w') w' k vo s:=by
 have H:=h.on m;have a:jt (λ_=>False) w w':=jt.of_more m;have d: ∀b,lnE (xf N w w') k vo b->lnE N k vo b∨w'.heap.size<=b:=λb G=>ϑ (xE h.own (λ_ e=>ϑ e) G)
 exact h.make m.size H.blk (h.r1.step a (λe=>e) (λe=>e) (λ_ e=>e.elim) d) (h.r2.step a (λe=>e) (λe=>e) (λ_ e=>e.elim) d) (h.r3.step a (λe=>e) (λe=>e) (λ_ e=>e.elim) d) (h.rows (jt.of_more m)) h.ok
def gF (h:LnX N w k vo s):Calls prog 61 #[γ k.L] w λe w'=>e= .returned (μ s.gone)/\ql w w':=by
 have d:w.cell? ⟨k.L,15,ϋ⟩=ϊ (μ s.gone):=qa h.blk 15 rfl;clear h
 go_enter func61,ntmps61
 go_wp2;go_ret;exact⟨rfl,ρ⟩
def WV (h:LnX N w k vo s) (m:ql w w'):Calls prog 222 #[γ k.R1] w' λe w''=>e= .returned (ι s.A.length)/\w''=w':=by
 obtain⟨f,q,J,O,H,I,css,d,G⟩:=(h.on m).r1;rw[<-G.len];exact Ni d
def WU (h:LnX N w k vo s) (m:ql w w'):Calls prog 224 #[γ k.R2] w' λe w''=>e= .returned (ι s.B.length)/\w''=w':=by
 obtain⟨f,q,J,O,H,I,css,d,G⟩:=(h.on m).r2;rw[<-G.len];exact Nj d
def WT (h:LnX N w k vo s) (m:ql w w'):Calls prog 225 #[γ k.R3] w' λe w''=>e= .returned (ι s.C.length)/\w''=w':=by
 obtain⟨f,q,J,O,H,I,css,d,G⟩:=(h.on m).r3;rw[<-G.len];exact Nh d
def Cj (h:LnX N w k vo s) (m:ql w w'):Calls prog 223 #[γ k.R2] w' λe w''=>e= .returned (μ (decide (s.B.length=s.room)))/\ql w' w'':=by
 obtain⟨f,q,J,O,H,I,css,d,G⟩:=(h.on m).r2;rw[<-G.len];refine(Hf d).mono ?_;rintro e w'' ⟨rfl,n,rfl⟩;exact⟨rfl,(ql.refl _).dr n⟩
def YA (h:LnX N w k vo s):Calls prog 175 #[γ k.L,ι 1] w λe w'=>e= .returned (μ (vC s 1))/\ql w w':=by
 have c1:w.cell? ⟨k.L,1,ϋ⟩=ϊ (π (ϊ ⟨k.R1,0,ϋ⟩)):=qa h.blk 1 rfl;have c2:w.cell? ⟨k.L,2,ϋ⟩=ϊ (π (ϊ ⟨k.R2,0,ϋ⟩)):=qa h.blk 2 rfl;have U:vC s 1=(decide (0<s.A.length)&&decide (¬s.B.length=s.room)):=rfl;have J:=κ (WV h (ql.refl w));have d:=κ (Cj h (ql.refl w));rw[U];clear h U;obtain⟨b,G⟩:=ν (decide (s.B.length=s.room));rw[G] at d;have O:decide (¬s.B.length=s.room)= !b:=by rw[<-G];simp
 rw[O];clear G O;by_cases hl:0<s.A.length
 ·have Y:(0:Int)<(s.A.length:Int):=by omega
  have H:decide (0<s.A.length)=ό:=by simp;omega
  rw[H]
  go_enter func175,ntmps175
  go_wp2_with (first | (go_at_call 222;(go_call J.o as e w1 ⟨rfl,rfl⟩)) | (go_at_call 223;(go_call d.o as e w2 ⟨rfl,I⟩)))
  all_goals (go_ret;first | exact⟨η,I⟩ | exact⟨η,ql.refl _⟩)
 ·have Y: ¬(0:Int)<(s.A.length:Int):=by omega
  have H:decide (0<s.A.length)=ύ:=ϯ hl;rw[H]
  go_enter func175,ntmps175
  go_wp2_with (first | (go_at_call 222;(go_call J.o as e w1 ⟨rfl,rfl⟩)) | (go_at_call 223;(go_call d.o as e w2 ⟨rfl,I⟩)))
  all_goals (go_ret;first | exact⟨η,I⟩ | exact⟨η,ql.refl _⟩)
def Yz (h:LnX N w k vo s):Calls prog 175 #[γ k.L,ι 2] w λe w'=>e= .returned (μ (vC s 2))/\ql w w':=by
 have c2:w.cell? ⟨k.L,2,ϋ⟩=ϊ (π (ϊ ⟨k.R2,0,ϋ⟩)):=qa h.blk 2 rfl;have d:vC s 2=decide (0<s.B.length):=rfl;have G:=κ (WU h (ql.refl w));rw[d];clear h d
 go_enter func175,ntmps175
 go_wp2_with (go_at_call 224;(go_call G.o as e w1 ⟨rfl,rfl⟩))
 go_ret;exact⟨η,ql.refl _⟩
def Jy (h:LnX N w k vo s):Calls prog 175 #[γ k.L,ι 3] w λe w'=>e= .returned (μ (vC s 3))/\ql w w':=by
 have c3:w.cell? ⟨k.L,3,ϋ⟩=ϊ (π (ϊ ⟨k.R3,0,ϋ⟩)):=qa h.blk 3 rfl;have d:vC s 3=decide (0<s.C.length):=rfl;have G:=κ (WT h (ql.refl w));rw[d];clear h d
 go_enter func175,ntmps175
 go_wp2_with (go_at_call 225;(go_call G.o as e w1 ⟨rfl,rfl⟩))
 go_ret;exact⟨η,ql.refl _⟩
def AJ (h:LnX N w k vo s):Calls prog 120 #[γ k.L] w λe w'=>e= .returned (.tuple #[θ #[ι s.cur,ι s.tgt],s.wanted])/\ql w w':=by
 have O:=κ h;have ab:k.L<w.heap.size:=qn h.blk;clear h
 go_enter func120,ntmps120
 go_wp2;obtain⟨W1,H⟩:=ν (w.alloc (.cells #[ι 0,ι 0] 221));have I:Hid (ql w W1):=κ (by rw[<-H];exact ql.alloc _ _);have J:Hid (W1.heap[w.heap.size]? =ϊ (.cells #[ι 0,ι 0] 221 (0,0))):=κ (by rw[<-H];exact qj w _);rw[H];clear H;have c4:=λ(x:qz (λb=>b=w.heap.size) W1)=>β4 (x.h.blk (qq I.o O.o.blk) τ)
 have Y: ∀x:qz (λb=>b=w.heap.size) W1,x.w'.rangeAt k.L 5 [ι s.cur,ι s.tgt]:=λx j v G=>by
  have U:=x.h.blk (qq I.o O.o.blk) (show ¬k.L=w.heap.size by omega)
  match j,G with
  | 0,G=>exact qa U 5 G
  | 1,G=>exact qa U 6 G
 refine QN (λb=>b=w.heap.size) W1 10 10 [8] ?_
 refine Qs3 ?_
 refine jh rfl rfl (qi σ) 221 (.tmp 6) rfl k.L 5 rfl [ι s.cur,ι s.tgt] _ (λw' aa=>by obtain⟨x,rfl⟩:=aa;exact Y x) underlying221 rfl ξ ?_;intro K d;go_simp;refine d _ ?_;clear d K
 refine Qs4 ?_
 refine jR rfl rfl ?_;intro K d;refine jr 221 (.tmp 2) (.tmp 7) rfl w.heap.size 221 _ #[ι s.cur,ι s.tgt] rfl rfl (qb J.o 1) ξ rfl (all_oneCell_toArray X8) ?_;refine⟨qi (((jt.refl (λb=>b=w.heap.size) W1).drewN 1).row (g:=w.heap.size) rfl _), ?_⟩;go_simp;refine d _ _ ?_;clear d K
 iterate 1 (refine qE rfl rfl (qi (((jt.refl (λb=>b=w.heap.size) W1).drewN 1).row (g:=w.heap.size) rfl _)) ?_;intro K d;go_big_quiet_op;go_big_quiet_on)
 refine qA ?_;go_wp2;refine bodyPost_ret (v:= .tuple #[θ #[ι s.cur,ι s.tgt],s.wanted]) (yo results120 _ _ w.heap.size 221 #[ι s.cur,ι s.tgt] _ _ rfl rfl (jY (qb J.o 1) _) underlying221 rfl ξ) rfl ?_;exact⟨rfl,(EC _ _ _).to_more (I.o.dr 1) (λk e=>by rw[e];exact ϔ _)⟩
def LnX.setL (h:LnX N w k vo s) (a:jt (λb=>b=k.L) w w') (J:w'.heap[k.L]? =ϊ (.cells (jQ k vo s') 223 (0,0)))
  (e:s'.room=s.room/\s'.A=s.A/\s'.B=s.B/\s'.C=s.C/\s'.W=s.W) (ah:KM s'):LnX (xf N w w') w' k vo s':=by
 obtain⟨⟨O,U,Y,aa,ab,ac⟩,_⟩:=h.dist;obtain⟨G,ad,ae,af,ag⟩:=e;have H: ∀b,b=k.L->lnE N k vo b:=λb d=>kZ (ϑ d)
 have I: ∀b,lnE (xf N w w') k vo b->lnE N k vo b∨w'.heap.size<=b:=λb d=>ϑ (xE h.own (λ_ e=>ϑ e) d)
 refine h.make a.size J ?_ ?_ ?_ ?_ ah
 ·rw[G,ad];exact h.r1.step a (C4 O) (C4 U) H I
 ·rw[G,ae];exact h.r2.step a (C4 Y) (C4 aa) H I
 ·rw[G,af];exact h.r3.step a (C4 ab) (C4 ac) H I
 ·rw[ag];exact h.rows (a.mono λb d=>ϑ d)
def Ec (h:LnX N w k vo s) (n:Int):Calls prog 63 #[γ k.L,ι n] w λe w'=>e= .returned (ι (jO s n).2)/\LnX (xf N w w') w' k vo (jO s n).1/\jt N w w':=by
 have I:=κ h;have ak:k.L<w.heap.size:=qn h.blk;cases ht:jj n with
 | false=>
  have aa:=κ ht;have O:jO s n=(s,1):=by unfold jO;rw[ϓ ht]
  rw[O];clear O ht h
  go_enter func63,ntmps63
  go_wp2_with (go_at_call 103;(go_call xX n _ as e w1 ⟨rfl,rfl⟩;rw[aa.o]))
  go_ret;exact⟨rfl,I.o.grow (ql.refl _),jt.refl _ _⟩
 | true=>
  have aa:=κ ht;cases hg:s.gone with
  | true=>
   have O:jO s n=(s,7):=by unfold jO;rw[Ϗ (by rw[ht];decide),ϓ hg]
   have J:=gF h;rw[hg] at J;have J:=κ J;rw[O];clear O ht h hg
   go_enter func63,ntmps63
   go_wp2_with (first | (go_at_call 103;(go_call xX n _ as e w1 ⟨rfl,rfl⟩;rw[aa.o])) | (go_at_call 61;(go_call J.o as e w2 ⟨rfl,U⟩;have ac:=κ U;clear U)))
   go_ret;exact⟨rfl,I.o.grow ac.o,jt.of_more ac.o⟩
  | false=>
   have O:jO s n=({s with wanted:=ό,cur:=if s.wanted then s.cur else -1,tgt:=n},0):=by unfold jO;rw[Ϗ (by rw[ht];decide),Ϗ (by rw[hg];decide)]
   have J:=gF h;rw[hg] at J;have J:=κ J;rw[O];clear O ht h hg;cases hw:s.wanted with
   | true=>
    have ad:=κ hw;clear hw
    go_enter func63,ntmps63
    go_wp2_with (first | (go_at_call 103;(go_call xX n _ as e w1 ⟨rfl,O⟩;subst w1;rw[aa.o])) | (go_at_call 61;(go_call J.o as e w2 ⟨rfl,U⟩;have ac:=κ U;have Y:=κ (qq U I.o.blk);clear U;have c4:w2.cell? ⟨k.L,4,ϋ⟩=ϊ (μ ό):=(by rw[<-ad.o];exact qa Y.o 4 rfl);have c5:w2.cell? ⟨k.L,5,ϋ⟩=ϊ (ι s.cur):=qa Y.o 5 rfl;have af:w2.cell? ⟨k.L,6,ϋ⟩=ϊ (ι s.tgt):=qa Y.o 6 rfl)) | (go_at_call 104;(go_call QT s.cur s.tgt n aa.o _ as e d ⟨rfl,ab⟩;have ae:Hid (ql w d):=κ (ac.o.trans ab);have G:=κ (qq ab Y.o);clear ab;have c5:d.cell? ⟨k.L,5,ϋ⟩=ϊ (ι s.cur):=qa G.o 5 rfl;have af:d.cell? ⟨k.L,6,ϋ⟩=ϊ (ι s.tgt):=qa G.o 6 rfl;have c4:d.cell? ⟨k.L,4,ϋ⟩=ϊ (μ s.wanted):=qa G.o 4 rfl;have ah:d.frozen? ⟨k.L,4,ϋ⟩=ύ:=yw G.o 4;have ai:d.frozen? ⟨k.L,5,ϋ⟩=ύ:=yw G.o 5;have aj:d.frozen? ⟨k.L,6,ϋ⟩=ύ:=yw G.o 6)))
    go_ret;have A:jt (λb=>b=k.L) w (((d.setCell ⟨k.L,5,ϋ⟩ (ι s.cur)).setCell ⟨k.L,6,ϋ⟩ (ι n)).setCell ⟨k.L,4,ϋ⟩ (μ ό)):=(((jt.of_more (S:=λb=>b=k.L) ae.o).set (p:=⟨k.L,5,ϋ⟩) rfl _).set (p:=⟨k.L,6,ϋ⟩) rfl _).set (p:=⟨k.L,4,ϋ⟩) rfl _;have H:=I.o.ok;exact⟨rfl,I.o.setL A (qB (qp (qp (qp G.o 5 _) 6 _) 4 _) (by rfl)) ⟨rfl,rfl,rfl,rfl,rfl⟩ ⟨H.most,H.row,H.lt,H.sq,H.src⟩,A.mono λb ag=>by rw[ag];exact I.o.muts _ (ϑ rfl)⟩
   | false=>
    have ad:=κ hw;clear hw
    go_enter func63,ntmps63
    go_wp2_with (first | (go_at_call 103;(go_call xX n _ as e w1 ⟨rfl,O⟩;subst w1;rw[aa.o])) | (go_at_call 61;(go_call J.o as e w2 ⟨rfl,U⟩;have ac:=κ U;have Y:=κ (qq U I.o.blk);clear U;have c4:w2.cell? ⟨k.L,4,ϋ⟩=ϊ (μ ύ):=(by rw[<-ad.o];exact qa Y.o 4 rfl);have c5:w2.cell? ⟨k.L,5,ϋ⟩=ϊ (ι s.cur):=qa Y.o 5 rfl;have af:w2.cell? ⟨k.L,6,ϋ⟩=ϊ (ι s.tgt):=qa Y.o 6 rfl)) | (go_at_call 105;(go_call YS n aa.o _ as e d ⟨rfl,ab⟩;have ae:Hid (ql w d):=κ (ac.o.trans ab);have G:=κ (qq ab Y.o);clear ab;have c5:d.cell? ⟨k.L,5,ϋ⟩=ϊ (ι s.cur):=qa G.o 5 rfl;have af:d.cell? ⟨k.L,6,ϋ⟩=ϊ (ι s.tgt):=qa G.o 6 rfl;have c4:d.cell? ⟨k.L,4,ϋ⟩=ϊ (μ s.wanted):=qa G.o 4 rfl;have ah:d.frozen? ⟨k.L,4,ϋ⟩=ύ:=yw G.o 4;have ai:d.frozen? ⟨k.L,5,ϋ⟩=ύ:=yw G.o 5;have aj:d.frozen? ⟨k.L,6,ϋ⟩=ύ:=yw G.o 6)))
    go_ret;have A:jt (λb=>b=k.L) w (((d.setCell ⟨k.L,5,ϋ⟩ (ι (-1))).setCell ⟨k.L,6,ϋ⟩ (ι n)).setCell ⟨k.L,4,ϋ⟩ (μ ό)):=(((jt.of_more (S:=λb=>b=k.L) ae.o).set (p:=⟨k.L,5,ϋ⟩) rfl _).set (p:=⟨k.L,6,ϋ⟩) rfl _).set (p:=⟨k.L,4,ϋ⟩) rfl _;have H:=I.o.ok;exact⟨rfl,I.o.setL A (qB (qp (qp (qp G.o 5 _) 6 _) 4 _) (by rfl)) ⟨rfl,rfl,rfl,rfl,rfl⟩ ⟨H.most,H.row,H.lt,H.sq,H.src⟩,A.mono λb ag=>by rw[ag];exact I.o.muts _ (ϑ rfl)⟩
def Iu (m d H sq st:Int) (n:Nat) (ad:m=n) (Y:1<=n) (aa:n<=8) (ag:1<=d) (ah:d<=10) (aC:U16 sq) (aD:U32 H) (w:World):Calls prog 59 #[θ #[ι m,ι d,ω H,φ sq,ω st]] w λe w'=> ∃L,e= .returned (.tuple #[γ L,ι 0])/\zw (λb=>w.heap.size<=b/\b<w'.heap.size) w' L (Vd n d H sq st)/\ql w w':=by
 have aJ:=κ (Pp m n ad Y aa);have aK:=κ (Pq m n ad Y aa);have aL:=κ (Po m n ad Y aa);have aM:=κ (Ka d ag ah);have aO:Hid (KM (Vd n d H sq st)):=κ ⟨⟨ag,ah⟩,⟨O4 _,(by show 0<=d;omega)⟩,λ_=>(by show 0<d;omega),aC,aD⟩;clear ad Y aa ag ah aC aD
 go_enter func59,ntmps59
 go_wp2_with (first | (go_at_call 98;(go_call aJ.o _ as e w1 ⟨rfl,az,aj⟩;have ap:Hid (qN 13 274 199 w1 (w.heap.size+1+1) (w.heap.size+1) n 0 [] 0 0 0 0 (List.replicate n (Γa:List Value))):=κ (by simpa using az);have au:=κ (qq aj (qj w (.cells #[ι m,ι d,ω H,φ sq,ω st] 117)));have aR:Hid (ql w w1):=κ (X6.trans aj);clear aj az;have aT:w1.cell? ⟨w.heap.size,0,ϋ⟩=ϊ (ι m):=qa au.o 0 rfl)) | (go_at_call 99;(go_call aK.o _ as e w2 ⟨rfl,aA,ak⟩;have aq:=κ aA;have av:=κ (qq ak au.o);have ax:Hid (ql w1 w2):=κ ak;clear ak aA;have aT:w2.cell? ⟨w.heap.size,0,ϋ⟩=ϊ (ι m):=qa av.o 0 rfl)) | (go_at_call 100;(go_call aL.o _ as e ae ⟨rfl,aB,am⟩;have ar:=κ aB;have aw:=κ (qq am av.o);have af:Hid (ql w2 ae):=κ am;clear am aB;have c1:ae.cell? ⟨w.heap.size,1,ϋ⟩=ϊ (ι d):=qa aw.o 1 rfl)) | (go_at_call 101;(go_call aM.o _ as e w4 ⟨rfl,an⟩;have aS:Hid (ql ae w4):=κ an;have aP:=κ (qq an aw.o);clear an)))
 obtain⟨I,ab⟩:=ν (w4.alloc (.cells #[ι d,ι 0,ύ] 211));have ay:Hid (ql w4 I):=κ (by rw[<-ab];exact ql.alloc _ _);have aQ:=κ (qq ay.o aP.o);have aI:Hid (I.heap[w4.heap.size]? =ϊ (.cells #[ι d,ι 0,ύ] 211 (0,0))):=κ (by rw[<-ab];exact qj w4 _);rw[ab];clear ab;have O:=λ(x:qt I)=>qq x.h aQ.o
 have c2:=λx=>β2 (O x);have c3:=λx=>β3 (O x);have c4:=λx=>β4 (O x);clear O
 have aN: ∀x:qt I,x.w'.rangeAt w4.heap.size 0 [ι d,ι 0,ύ]:=λx=>xy (qq x.h aI.o)
 refine zC I 15 [(0,ύ),(1,ύ),(2,ύ),(3,ύ),(4,ύ),(5,ύ),(6,ύ),(7,ύ),(8,ύ),(10,ύ),(9,ό),(11,ύ),(12,ό),(13,ύ),(14,ύ)] ξ ξ ?_
 refine Qq9 ?_
 refine jh rfl rfl (qk ρ) 211 (.tmp 8) rfl w4.heap.size 0 rfl [ι d,ι 0,ύ] _ (λw' aU=>by obtain⟨x,rfl⟩:=aU;exact aN x) underlying211 rfl ξ ?_;intro K G;go_simp;refine G _ ?_;clear G K
 (refine Ql ?_;intro K G)
 go_call Zf H sq st _ as e w6 ⟨rfl,aE⟩;have J:Hid (ql I w6):=κ ((ql.drewN _ _).trans aE);clear aE;refine⟨_,rfl,qk J.o,G _ _ ?_⟩;clear G K
 iterate 1 (refine qE rfl rfl (qk J.o) ?_;intro K G;go_big_quiet_op;go_big_quiet_on)
 (refine Ql ?_;intro K G)
 refine⟨qk (J.o.al _),G _ _ ?_⟩;clear G K
 iterate 2 (refine qE rfl rfl (qk (J.o.al _)) ?_;intro K G;go_big_quiet_op;go_big_quiet_on)
 refine qA ?_;go_wp2;refine bodyPost_ret (v:= .tuple #[γ w6.heap.size,ι 0]) (by simp[results,results59,go_sem]) rfl ?_;obtain⟨W7,ac⟩:=ν (w6.alloc (.cells #[δ ϋ 0 0,γ (w.heap.size+1+1),γ (w1.heap.size+1),γ (w2.heap.size+1),ύ,ι 0,ι 0,ω H,φ sq,ω st,ύ,ω 0,ω 0,ι d,ι 0,ύ] 223));have ao:W7.heap[w6.heap.size]? =ϊ (.cells (jQ ⟨w6.heap.size,w.heap.size+1+1,w.heap.size+1,w1.heap.size+1,w1.heap.size,w2.heap.size+1,w2.heap.size⟩ (δ ϋ 0 0) (Vd n d H sq st)) 223 (0,0)):=by rw[<-ac];exact qj w6 _
 have U:ql w6 W7:=by rw[<-ac];exact ql.alloc _ _
 have aV:w6.heap.size<W7.heap.size:=qn ao;rw[ac];clear ac;have N:ql ae w6:=(aS.o.trans ay.o).trans J.o;have aX:=qn ap.o.ring;have aY:=qn aq.o.ring;have z3:=qn ar.o.ring;have aW:=N.size;have aF:=(ap.o.more ((ax.o.trans af.o).trans (N.trans U)));have aG:=(aq.o.more (af.o.trans (N.trans U)));have aH:=(ar.o.more (N.trans U));refine⟨_,rfl,⟨⟨w6.heap.size,w.heap.size+1+1,w.heap.size+1,w1.heap.size+1,w1.heap.size,w2.heap.size+1,w2.heap.size⟩,δ ϋ 0 0,rfl, ?_⟩,((aR.o.trans ax.o).trans af.o).trans (N.trans U)⟩;refine⟨λb ai=>ai.2,λb ai=> ?_,by simp only;omega,ao,⟨_,_,_,_,_,_,_,aF,trivial⟩,⟨_,_,_,_,_,_,_,aG,trivial⟩,⟨_,_,_,_,_,_,_,aH,trivial⟩,je.nil 2 ROu _ W7 0 _,aO.o⟩;rcases ai with e | (e | e) | (e | e) | (e | e)<;>(simp only at e;subst e;constructor<;>omega)
def QU {P:Program} {C:World->Prop} {l:List Oper} {T:Nat} {Q:Act->World->Prop} {k:Nat} {o:Oper} {t:Tr} {a:Act} (U:l[k]? =ϊ o) (H:Region.wanted o (yielded l.toArray a.tmps)=ό) (I:C w)
  (d:TypeId) (x:Operand) (Y:o.op= .load d x) (b off:Nat) (ab:a.eval x= π (ϊ ⟨b,off,ϋ⟩)) (cs:List Value) (G:TypeDesc) (N: ∀w,C w->w.rangeAt b off cs)
  (aa:P.underlying d=ϊ G) (O:G.isRow=ό) (hi:(P.info? d).map (·.size)=ϊ cs.length)
  (h: ∀K:Act->Prop,(∀a,zk P l.toArray T C Q t a w->K a)->K (a.put o.dst (θ cs.toArray))):zk P l.toArray T C Q (.op k ύ t) a w:=
 qH U H I λK J=>⟨θ cs.toArray,λw H=>by
  unfold Oper.quietAt execOp;simp only[Y,ab,Instr.loadAt,Instr.sureAddr,Sem.run_bind,Sem.run_pure,Result.andThen_ok,run_loadVar_mid w b off d cs G (N w H) aa O hi]
  exact⟨rfl,rfl⟩,h K J⟩
def AH (c t n:Int) (k:Bool) (w:World):Calls prog 252 #[θ #[ι c,ι t],ι n,k] w λe w'=>e= .returned (.tuple #[θ #[ι (xJ c t n k).1,ι t],ι (xJ c t n k).2.1,μ (xJ c t n k).2.2])/\ql w w':=by
 by_cases h1:n=c
 ·have e:xJ c t n k=(c,0,ύ):=by unfold xJ;rw[ϓ h1]
  rw[e];exact Uo c t n k (by simp[h1]) (by simp[h1]) w
 ·by_cases h2:n=t
  ·cases k with
   | true=>
    have e:xJ c t n ό=(n,0,ό):=by unfold xJ;rw[Ϗ h1,ϓ h2,ϓ rfl]
    rw[e];exact Up c t n ό (by simp[h1]) (by simp[h2]) rfl w
   | false=>
    have e:xJ c t n ύ=(c,5,ύ):=by unfold xJ;rw[Ϗ h1,ϓ h2,Ϗ ζ]
    rw[e];exact V9 c t n ύ (by simp[h1]) (by simp[h1]) (by simp[h2]) rfl w
  ·have e:xJ c t n k=(c,4,ύ):=by unfold xJ;rw[Ϗ h1,Ϗ h2]
   rw[e];exact AG c t n k (by simp[h1]) (by simp[h1]) (by simp[h2]) w
def Y3 (h:LnX N w k vo s) (G:vC s 1=ύ):Calls prog 193 #[γ k.L] w λe w'=>e= .returned (.tuple #[ι 0,ι 0,ύ])/\ql w w':=by
 have d:=YA h;rw[G] at d;have d:=κ d;clear G h
 go_enter func193,ntmps193
 go_wp2_with (go_at_call 175;(go_call d.o as e w1 ⟨rfl,H⟩;have I:=κ H;clear H))
 refine bodyPost_ret (v:= .tuple #[ι 0,ι 0,ύ]) (by simp[results,results193,go_sem]) rfl ?_;exact⟨rfl,I.o⟩
def Zn (h:LnX N w k vo s) (be:vC s 1=ό) (x:ItS) (T:List ItS) (bQ:s.A=x::T) (ae f:Int) (ao:Bool) (bw:xJ s.cur s.tgt x.layer x.key=(ae,f,ao)) (z:Bool) (cn:(f==0)=z):
  Calls prog 193 #[γ k.L] w λe w'=>e= .returned (.tuple #[ι x.id,ι f,ό])/\LnX (xf N w w') w' k vo {s with A:=T,cur:=ae,B:=if z then s.B++[(x,ao)] else s.B}/\jt N w w':=by
 have H:=κ h;have aC:=YA h;rw[be] at aC;have aC:=κ aC;have av:=AH s.cur s.tgt x.layer x.key;rw[bw] at av;have av:=κ av;have cj:s.B.length<s.room:=by
  have:=h.r2.fit.1;have bP:(decide (0<s.A.length)&&decide (¬s.B.length=s.room))=ό:=be;simp at bP;omega
 obtain⟨ax,co,aW,bK,aU,aV,bL,bd,aT⟩:=h.r1;rw[bQ] at aT;obtain⟨c,q,rfl,aE,bo⟩:=aT.uncons;have AQ:=κ bo;obtain⟨cq,cp,vp,rfl,⟨⟨os,ai,rfl,_⟩,⟨aj,ke,rfl,_⟩,⟨ak,ah,rfl,_⟩⟩,_,_⟩:=aE.read;unfold itC at aE bd;have bC:=κ aE;have bF:=κ bd;have ad:=κ h.dist;clear h be bw bd aE bo aT
 go_enter func193,ntmps193
 go_wp2_with (first | (go_at_call 175;(go_call aC.o as e w1 ⟨rfl,az⟩;have bH:=κ az;have bh:=κ (qq az H.o.blk);have cu:Hid (w.heap.size<=w1.heap.size):=κ az.size;have bE:=κ (bF.o.more az);clear az;have c1:w1.cell? ⟨k.L,1,ϋ⟩=ϊ (π (ϊ ⟨k.R1,0,ϋ⟩)):=qa bh.o 1 rfl)) | (go_at_call 251;(go_call Nb w1 k.R1 k.A1 s.room ax _ q aW bK aU aV bL bE.o as e w2 ⟨rfl,⟨aX,ag⟩,af⟩;have bk:=κ ag;have A2:Hid (jt (RgB k.R1 k.A1) w w2):=κ ((jt.of_more bH.o).trans af);have bi:Hid (w2.heap[k.L]? =ϊ (.cells (jQ k vo s) 223 (0,0))):=κ (af.blk bh.o (by obtain⟨⟨Y,ac,_⟩,_⟩:=ad.o;rintro(e | e)<;>omega));clear ag af)))
 obtain⟨J,aL⟩:=ν ((w2.alloc (.cells (Γj x os ai aj ke ak ah) 199)));have aw:Hid (ql w2 J):=κ (by rw[<-aL];exact ql.alloc _ _);have aQ:Hid (J.heap[w2.heap.size]? =ϊ (.cells (Γj x os ai aj ke ak ah) 199 (0,0))):=κ (by rw[<-aL];exact qj w2 _);have aO:=κ (qq aw.o bi.o);rw[aL];clear aL
 go_cut [7,8,9] from 21 (λcb cc cd bA=> ∃C,cb= γ C/\cc= ι f/\cd= μ ao/\ql J bA/\bA.heap[C]? =ϊ (.cells #[ι ae,ι s.tgt] 221 (0,0))/\J.heap.size<=C)
 case first=>
  have bG: ∀x:qt J,x.w'.rangeAt k.L 5 [ι s.cur,ι s.tgt]:=λx j v O=>by
   have d:=qq x.h aO.o
   match j,O with
   | 0,O=>exact qa d 5 O
   | 1,O=>exact qa d 6 O
  have ce: ∀y:qt J,y.w'.cell? ⟨w2.heap.size,1,ϋ⟩=ϊ (ι x.layer):=λy=>qa (qq y.h aQ.o) 1 rfl
  have bm: ∀y:qt J,y.w'.cell? ⟨w2.heap.size,2,ϋ⟩=ϊ (μ x.key):=λy=>qa (qq y.h aQ.o) 2 rfl
  refine zB J 17 (.op 0 ύ (.op 1 ύ (.op 2 ύ (.op 3 ύ (.op 4 ύ (.op 5 ύ (.op 6 ύ (.op 7 ύ (.br [8,13] λk=>if k=8 then .op 9 ύ (.op 10 ύ (.op 11 ύ (.op 12 ύ (.op 13 ό (.op 14 ό (.op 15 ύ (.op 16 ύ (.done)))))))) else .op 8 ό (.op 9 ύ (.op 10 ύ (.op 11 ύ (.op 12 ύ (.op 14 ό (.op 15 ύ (.op 16 ύ (.done))))))))))))))))) ξ ξ ?_
  iterate 3 (refine qH rfl rfl (qk ρ) ?_;intro K G;go_big_quiet_op;go_big_quiet_on)
  refine QU rfl rfl (qk ρ) 221 (.tmp 24) rfl k.L 5 rfl [ι s.cur,ι s.tgt] _ (λw' bf=>by obtain⟨y,rfl⟩:=bf;exact bG y) underlying221 rfl ξ ?_;intro K G;go_simp;refine G _ ?_;clear G K
  repeat (first | (refine jg rfl rfl (qk ρ) ?_) | (refine qH rfl rfl (qk ρ) ?_;intro K G;go_big_quiet_op;go_big_quiet_on))
  refine wP ζ ?_ ?_
  ·(refine qO rfl rfl ?_;intro K G;unfold jn;go_simp)
   go_call av.o _ as e w5 ⟨rfl,ap⟩;have I:Hid (ql J w5):=κ ((ql.drewN _ 1).trans ap);clear ap;refine⟨_,rfl,qk I.o,G _ _ ?_⟩;clear G K
   repeat (first | (refine jg rfl rfl (qk I.o) ?_) | (refine qH rfl rfl (qk I.o) ?_;intro K G;go_big_quiet_op;go_big_quiet_on))
   (refine qO rfl rfl ?_;intro K G;unfold jn;go_simp)
   refine⟨qk (I.o.al _),G _ _ ?_⟩;clear G K
   (refine qO rfl rfl ?_;intro K G;unfold jn;go_simp)
   refine⟨qk (by repeat (first | exact I.o.al _ | refine ql.st ?_ (by have:=I.o.size;simp;omega) _)),G _ _ ?_⟩;clear G K
   repeat (first | (refine jg rfl rfl (qk (by repeat (first | exact I.o.al _ | refine ql.st ?_ (by have:=I.o.size;simp;omega) _))) ?_) | (refine qH rfl rfl (qk (by repeat (first | exact I.o.al _ | refine ql.st ?_ (by have:=I.o.size;simp;omega) _))) ?_;intro K G;go_big_quiet_op;go_big_quiet_on))
   refine zg ?_;go_wp2;go_meet;exact⟨_,rfl,rfl,rfl,I.o.al _,qj w5 _,I.o.size⟩
  ·(refine qO rfl rfl ?_;intro K G;unfold jn;go_simp)
   refine⟨qk ρ,G _ _ ?_⟩;clear G K
   (refine qO rfl rfl ?_;intro K G;unfold jn;go_simp)
   go_call av.o _ as e w5 ⟨rfl,ap⟩;have I:Hid (ql J w5):=κ (((ql.drewN _ 1).al _).trans ap);have au:Hid (w5.heap[J.heap.size]? =ϊ (.cells #[ι 0,ι 0] 221 (0,0))):=κ (qq ap (qC rfl));clear ap;have bM:w5.cell? ⟨J.heap.size,0,ϋ⟩=ϊ (ι 0):=qa au.o 0 rfl;have Y:w5.cell? ⟨J.heap.size,1,ϋ⟩=ϊ (ι 0):=qa au.o 1 rfl;have e0:w5.frozen? ⟨J.heap.size,0,ϋ⟩=ύ:=yw au.o 0;have aH:w5.frozen? ⟨J.heap.size,1,ϋ⟩=ύ:=yw au.o 1;refine⟨_,rfl,qk I.o,G _ _ ?_⟩;clear G K
   repeat (first | (refine jg rfl rfl (qk I.o) ?_) | (refine qH rfl rfl (qk I.o) ?_;intro K G;go_big_quiet_op;go_big_quiet_on))
   (refine qO rfl rfl ?_;intro K G;unfold jn;go_simp)
   refine⟨qk ((I.o.st (ϔ _) _).st (ϔ _) _),G _ _ ?_⟩;clear G K
   repeat (first | (refine jg rfl rfl (qk ((I.o.st (ϔ _) _).st (ϔ _) _)) ?_) | (refine qH rfl rfl (qk ((I.o.st (ϔ _) _).st (ϔ _) _)) ?_;intro K G;go_big_quiet_op;go_big_quiet_on))
   refine zg ?_;go_wp2;go_meet;exact⟨_,rfl,rfl,rfl,(I.o.st (ϔ _) _).st (ϔ _) _,qB (qp (qp au.o 0 _) 1 _) rfl,ϔ _⟩
 case rest=>
 obtain⟨C,rfl,rfl,rfl,aN,bu,ck⟩:=hcut;have aD:=κ aN;have bj:=κ bu;have an:=κ (qq aN aO.o);have aS:=κ (qq aN aQ.o);clear aN bu;have cl:k.L<C:=by have:=qn aO.o;omega
 have bM:wc.cell? ⟨C,0,ϋ⟩=ϊ (ι ae):=qa bj.o 0 rfl;have Y:wc.cell? ⟨C,1,ϋ⟩=ϊ (ι s.tgt):=qa bj.o 1 rfl;have c5:wc.cell? ⟨k.L,5,ϋ⟩=ϊ (ι s.cur):=qa an.o 5 rfl;have cf:wc.cell? ⟨k.L,6,ϋ⟩=ϊ (ι s.tgt):=qa an.o 6 rfl;have aI:wc.frozen? ⟨k.L,5,ϋ⟩=ύ:=yw an.o 5;have ch:wc.frozen? ⟨k.L,6,ϋ⟩=ύ:=yw an.o 6;have cr:wc.cell? ⟨w2.heap.size,0,ϋ⟩=ϊ (ι x.id):=qa aS.o 0 rfl;have aM: ¬w2.heap.size=k.L:=by have:=qn bi.o;omega
 cases z
 ·go_wp2;refine bodyPost_ret (v:= .tuple #[ι x.id,ι f,ό]) (by simp[results,results193,go_sem]) rfl ?_;obtain⟨W6,U⟩:=ν ((wc.setCell ⟨k.L,5,ϋ⟩ (ι ae)).setCell ⟨k.L,6,ϋ⟩ (ι s.tgt));have aA:Hid (jt (λb=>b=k.L∨RgB k.R1 k.A1 b) w W6):=κ (by rw[<-U];exact((((A2.o.mono (S':=λb=>b=k.L∨RgB k.R1 k.A1 b) λb d=>ϕ d).more (aw.o.trans aD.o)).set (p:=⟨k.L,5,ϋ⟩) (ϑ rfl) _).set (p:=⟨k.L,6,ϋ⟩) (ϑ rfl) _));have aB:Hid (W6.heap[k.L]? =ϊ (.cells (jQ k vo {s with A:=T,cur:=ae}) 223 (0,0))):=κ (by rw[<-U];exact qB (qp (qp an.o 5 _) 6 _) rfl);have aR:Hid (W6.heap[w2.heap.size]? =ϊ (.cells (Γj x os ai aj ke ak ah) 199 (0,0))):=κ (by rw[<-U];exact qo (qo aS.o ⟨k.L,5,ϋ⟩ _ aM) ⟨k.L,6,ϋ⟩ _ aM)
  have aP:Hid (qN 13 274 199 W6 k.R1 k.A1 s.room ((ax+1)%s.room) q aW _ aU aV _):=κ (by
   obtain⟨⟨Y,ac,_⟩,_⟩:=ad.o;rw[<-U]
   exact((bk.o.more (aw.o.trans aD.o)).away (S:=λb=>b=k.L) (((jt.refl (λb=>b=k.L) wc).set (p:=⟨k.L,5,ϋ⟩) rfl _).set (p:=⟨k.L,6,ϋ⟩) rfl _) (C4 Y) (C4 ac)))
  rw[U];clear U;have am:jt (λb=>b=k.L∨RgB k.R1 k.A1 b) w W6:=aA.o;obtain⟨⟨Y,ac,aF,aG,aY,aZ⟩,⟨aH,ba,bb,bc,aI⟩,⟨bS,bT,bU,bV⟩,⟨bW,bX,bY⟩,⟨bZ,ca⟩,_⟩:=ad.o;have ab:jt k.muts w W6:=am.mono λb d=>by rcases d with e | e;exact ϑ e;exact ϕ (ϑ e)
  have ar:jt (lnM k vo) w W6:=ab.mono λb d=>ϑ d
  have O: ∀b,vo.ownBlock=ϊ b->vo.ownBlock=ϊ b∨w.heap.size<=b:=λb d=>ϑ d
  have aK: ∀b,(λb=>b=k.L∨RgB k.R1 k.A1 b) b->lnE N k vo b:=λb d=>kZ (by rcases d with e | e;exact ϑ e;exact ϕ (ϑ e))
  have aa:=H.o.ok;exact⟨rfl,H.o.make ab.size aB.o ⟨_,_,_,_,_,_,_,aP.o,AQ.o.mono λc y ay=>H.o.held ay ar O⟩ (H.o.r2.step am (by rintro(e | e | e)<;>omega) (by rintro(e | e | e)<;>omega) aK λb d=>ϑ (xE H.o.own O d)) (H.o.r3.step am (by rintro(e | e | e)<;>omega) (by rintro(e | e | e)<;>omega) aK λb d=>ϑ (xE H.o.own O d)) (H.o.rows ab) ⟨aa.most,aa.row,aa.lt,aa.sq,aa.src⟩,ab.mono λb d=>H.o.muts b d⟩
 ·go_wp2;obtain⟨W6,U⟩:=ν ((wc.setCell ⟨k.L,5,ϋ⟩ (ι ae)).setCell ⟨k.L,6,ϋ⟩ (ι s.tgt));have aA:Hid (jt (λb=>b=k.L∨RgB k.R1 k.A1 b) w W6):=κ (by rw[<-U];exact((((A2.o.mono (S':=λb=>b=k.L∨RgB k.R1 k.A1 b) λb d=>ϕ d).more (aw.o.trans aD.o)).set (p:=⟨k.L,5,ϋ⟩) (ϑ rfl) _).set (p:=⟨k.L,6,ϋ⟩) (ϑ rfl) _));have aB:Hid (W6.heap[k.L]? =ϊ (.cells (jQ k vo {s with A:=T,cur:=ae,B:=s.B++[(x,ao)]}) 223 (0,0))):=κ (by rw[<-U];exact qB (qp (qp an.o 5 _) 6 _) rfl);have aR:Hid (W6.heap[w2.heap.size]? =ϊ (.cells (Γj x os ai aj ke ak ah) 199 (0,0))):=κ (by rw[<-U];exact qo (qo aS.o ⟨k.L,5,ϋ⟩ _ aM) ⟨k.L,6,ϋ⟩ _ aM)
  have aP:Hid (qN 13 274 199 W6 k.R1 k.A1 s.room ((ax+1)%s.room) q aW _ aU aV _):=κ (by
   obtain⟨⟨Y,ac,_⟩,_⟩:=ad.o;rw[<-U]
   exact((bk.o.more (aw.o.trans aD.o)).away (S:=λb=>b=k.L) (((jt.refl (λb=>b=k.L) wc).set (p:=⟨k.L,5,ϋ⟩) rfl _).set (p:=⟨k.L,6,ϋ⟩) rfl _) (C4 Y) (C4 ac)))
  rw[U];clear U;obtain⟨aJ,bg,bs,aX,bp,bq,bt,ag,af⟩:=H.o.r2;have bB:=κ af;have bR:bg.length<s.room:=by have:=af.len;omega
  have R2:Hid (qN 14 277 204 W6 k.R2 k.A2 s.room aJ bg bs aX bp bq bt):=κ (ag.away aA.o (by obtain⟨⟨Y,ac,aF,aG,aY,aZ⟩,⟨aH,ba,bb,bc,aI⟩,⟨ax,aJ,bN,bO⟩,_⟩:=ad.o;rintro(e | e | e)<;>omega) (by obtain⟨⟨Y,ac,aF,aG,aY,aZ⟩,⟨aH,ba,bb,bc,aI⟩,⟨ax,aJ,bN,bO⟩,_⟩:=ad.o;rintro(e | e | e)<;>omega));have cm:k.R2<w.heap.size:=qn ag.ring;have ci:k.A2<w.heap.size:=qn ag.row;have cv:w.heap.size<=w2.heap.size:=A2.o.size;clear ag af;have bx: ¬RgB k.R2 k.A2 k.L:=by
   obtain⟨⟨Y,ac,aF,aG,_⟩,_⟩:=ad.o;rintro(e | e)<;>omega
  have bz: ¬RgB k.R2 k.A2 w2.heap.size:=by rintro(e | e)<;>omega
  have bm: ∀y:qz (RgB k.R2 k.A2) W6,y.w'.cell? ⟨k.L,2,ϋ⟩=ϊ (π (ϊ ⟨k.R2,0,ϋ⟩)):=λy=>qa (y.h.blk aB.o bx) 2 rfl
  have bl: ∀y:qz (RgB k.R2 k.A2) W6,y.w'.rangeAt w2.heap.size 0 (Γj x os ai aj ke ak ah):=λy=>xy (y.h.blk aR.o bz)
  refine QN (RgB k.R2 k.A2) W6 8 8 [7] ?_
  refine Qs4 ?_
  refine jh rfl rfl (qi σ) 199 (.tmp 5) rfl w2.heap.size 0 rfl (Γj x os ai aj ke ak ah) _ (λw' bf=>by obtain⟨y,rfl⟩:=bf;exact bl y) underlying199 rfl ξ ?_;intro K G;go_simp;refine G _ ?_;clear G K
  refine Qs2 ?_
  (refine Ql ?_;intro K G)
  go_call UH _ k.R2 k.A2 s.room aJ bg bs aX bp bq bt (R2.o.more (ql.drewN W6 1)) bR (Γk x os ai aj ke ak ah ao) ⟨rfl,by simp[Value.oneCell']⟩ as e w8 ⟨rfl,⟨cg,bv⟩,bn⟩;have bI:=κ bv;have aq:Hid (jt (RgB k.R2 k.A2) W6 w8):=κ (((jt.refl _ W6).drewN 1).trans bn);clear bv bn;refine⟨_,rfl,qi aq.o,G _ _ ?_⟩;clear G K bm bl;refine qA ?_;have bD:=κ (aq.o.blk aB.o bx);have bJ:=κ (aq.o.blk aR.o bz);have ct:w8.cell? ⟨w2.heap.size,0,ϋ⟩=ϊ (ι x.id):=qa bJ.o 0 rfl;go_wp2;refine bodyPost_ret (v:= .tuple #[ι x.id,ι f,ό]) (by simp[results,results193,go_sem]) rfl ?_;have am:jt (λb=>b=k.L∨RgB k.R1 k.A1 b∨RgB k.R2 k.A2 b) w w8:=(aA.o.mono λb d=>by rcases d with e | e;exact ϑ e;exact ϕ (ϑ e)).trans (aq.o.mono λb d=>ϕ (ϕ d));obtain⟨⟨Y,ac,aF,aG,aY,aZ⟩,⟨aH,ba,bb,bc,aI⟩,⟨bS,bT,bU,bV⟩,⟨bW,bX,bY⟩,⟨bZ,ca⟩,_⟩:=ad.o;have ab:jt k.muts w w8:=am.mono λb d=>by rcases d with e | e | e;exact ϑ e;exact ϕ (ϑ e);exact ϕ (ϕ (ϑ e))
  have ar:jt (lnM k vo) w w8:=ab.mono λb d=>ϑ d
  have O: ∀b,vo.ownBlock=ϊ b->vo.ownBlock=ϊ b∨w.heap.size<=b:=λb d=>ϑ d
  have aK: ∀b,(λb=>b=k.L∨RgB k.R1 k.A1 b∨RgB k.R2 k.A2 b) b->lnE N k vo b:=λb d=>kZ (by rcases d with e | e | e;exact ϑ e;exact ϕ (ϑ e);exact ϕ (ϕ (ϑ e)))
  have aa:=H.o.ok;exact⟨rfl,H.o.make ab.size bD.o ⟨_,_,_,_,_,_,_,aP.o.away aq.o X9 X9,AQ.o.mono λc y ay=>H.o.held ay ar O⟩ ⟨_,_,_,_,_,_,_,bI.o,(bB.o.mono λc y ay=>H.o.held ay ar O).snoc (H.o.held (jw.chosen ao bC.o) ar O)⟩ (H.o.r3.step am (by rintro(e | (e | e) | (e | e))<;>omega) (by rintro(e | (e | e) | (e | e))<;>omega) aK λb d=>ϑ (xE H.o.own O d)) (H.o.rows ab) ⟨aa.most,aa.row,aa.lt,aa.sq,aa.src⟩,ab.mono λb d=>H.o.muts b d⟩
def De (h:LnX N w k vo s):Calls prog 193 #[γ k.L] w λe w'=>e= .returned (.tuple #[ι (jf s).2.1,ι (jf s).2.2.1,μ (jf s).2.2.2])/\LnX (xf N w w') w' k vo (jf s).1/\jt N w w':=by
 cases hm:vC s 1 with
 | false=>
  have e:jf s=(s,0,0,ύ):=by unfold jf;rw[ϓ hm]
  rw[e];refine(Y3 h hm).mono ?_;rintro e w' ⟨rfl,m⟩;exact⟨rfl,h.grow m,jt.of_more m⟩
 | true=>
  cases hA:s.A with
  | nil=>
   have:(decide (0<s.A.length)&&decide (¬s.B.length=s.room))=ό:=hm;rw[hA] at this;simp at this
  | cons x T=>
   have e:jf s=({s with A:=T,cur:=(xJ s.cur s.tgt x.layer x.key).1,B:=if (xJ s.cur s.tgt x.layer x.key).2.1=0 then s.B++[(x,(xJ s.cur s.tgt x.layer x.key).2.2)] else s.B},x.id,(xJ s.cur s.tgt x.layer x.key).2.1,ό):=by
    unfold jf;rw[Ϗ (by rw[hm];decide),hA]
   rw[e];rcases ht:xJ s.cur s.tgt x.layer x.key with ⟨d,f,G⟩
   simp only;have:=Zn h hm x T hA d f G ht (f==0) rfl
   simpa using this
def Jz (n s:Int):Byt (qy n s):=by
 unfold qy;split
 ·exact JF _ _
 ·exact xh
def Ix (l:List Int):Byt (ssB l):=by
 induction l with
 | nil=>exact xh
 | cons x l ih=>exact zZ (Jz _ _) ih
def EM {p:Pk} (h:uf p):Byt (DB p):=by
 unfold DB CV Hz;refine zZ (zZ (zZ (zZ (zZ (zZ ?_ ?_) ?_) ?_) ?_) (Ix _)) ?_
 all_goals try exact Jz _ _
 split
 ·exact zZ (zZ (Jz _ _) (Jz _ _)) h.ex
 ·exact xh
def Iy {p:Pk} (h:uf p):Byt (pkB p):=zZ (EM h) h.pl
def jt.setNew {a b:World} (h:jt S a b) {p:Addr} (H:a.heap.size<=p.block) (v:Value):jt S a (b.setCell p v):=
 ⟨h.os,h.tape,h.output,by simpa [World.setCell] using h.size,λk d G=>by rw[Below.heap_setCell _ _ _ _ (λe=>by omega)];exact h.block k d G⟩
def Vg {e size n:Nat} (h:w.ownsRow base e size v n xs) (d:v.ownBlock=ϊ b):b<w.heap.size:=by
 rcases h.2 with ⟨rfl,_⟩ | ⟨g,cap,cur,rfl,_,G,_⟩
 ·cases d
 ·obtain rfl:g=b:=by injection d
  exact lt_of_block G
def vE (room:Nat) (q:List (List Value)) (x:List Value):List (List Value):=if q.length<room then q++[x] else q.tail++[x]
def Pc (ae:World) (R A room f:Nat) (q:List (List Value)) (N I J H:Int) (css:List (List Value)) (ab:qN 2 279 209 ae R A room f q N I J H css)
  (ad: ∀c∈q,∃i G n d,c=[ι i,δ G n d]) (x:List Value) (ac:x.length=2/\ ∀u∈x,u.oneCell'=ό):
  ∃old G n d,(old=if q.length<room then 0 else (q.head?.map idN).getD 0)/\
  ∀w,qN 2 279 209 w R A room f q N I J H css->Calls prog 256 #[γ R,θ x.toArray] w λe w'=>e= .returned (.tuple #[θ #[ι old,δ G n d],(decide (¬q.length<room)),ι 0])/\
   (∃f' O aa css',qN 2 279 209 w' R A room f' (vE room q x) O I aa H css')/\jt (RgB R A) w w':=by
 by_cases hq:q.length<room
 ·refine⟨0,ϋ,0,0,by rw[ϓ hq],λw h=> ?_⟩;have U:decide (¬q.length<room)=ύ:=by simp[hq]
  have Y:vE room q x=q++[x]:=by unfold vE;rw[ϓ hq]
  rw[U,Y];refine(UD w R A room f q N I J H css h hq x ac).mono ?_;rintro e w' ⟨rfl,⟨O,g⟩,a⟩;exact⟨rfl,⟨_,_,_,_,g⟩,a⟩
 ·have af:=ab.fits;have ag:=ab.pos;cases q with
  | nil=>simp at hq;omega
  | cons c T=>
   obtain⟨i,G,n,d,rfl⟩:=ad c η;refine⟨i,G,n,d,by rw[Ϗ hq];rfl,λw h=> ?_⟩;have U:decide (¬([ι i,δ G n d]::T).length<room)=ό:=by simpa using hq
   have Y:vE room ([ι i,δ G n d]::T) x=T++[x]:=by unfold vE;rw[Ϗ hq];rfl
   rw[U,Y];refine(UE w R A room f [ι i,δ G n d] T N I J H css h τ x ac).mono ?_;rintro e w' ⟨rfl,⟨O,aa,g⟩,a⟩;exact⟨rfl,⟨_,_,_,_,g⟩,a⟩
def zb.tl {β:Type} {p:α->β->Prop} {l:List α} {m:List β} (h:zb p l m):zb p l.tail m.tail:=by
 cases l with
 | nil=>cases m with
  | nil=>exact trivial
  | cons b m=>exact h.elim
 | cons a l=>cases m with
  | nil=>exact h.elim
  | cons b m=>exact h.2
def DY {room:Nat} {l:List α} {y:α} (a:zb (jw R D w) q l) (h:jw R D w c y):
  zb (jw R D w) (vE room q c) (if l.length<room then l++[y] else l.tail++[y]):=by
 unfold vE;rw[a.len];split
 ·exact a.snoc h
 ·exact a.tl.snoc h
def LnX.fresh (h:LnX N w k vo s) {G:IntKind} {l:List Int} (O:SlI G w' v l) (J: ∀b,v.ownBlock=ϊ b->w.heap.size<=b/\b<w'.heap.size) (U: ∀b,vo'.ownBlock=ϊ b->vo.ownBlock=ϊ b) {w'':World} (a:jt (lnE (xf N w w') k vo') w' w''):SlI G w'' v l:=by
 refine O.off (λb e d=> ?_) a;obtain⟨H,I⟩:=J b e;rcases d with d | d
 ·have:=h.own b (h.muts b (d (ϕ ⟨H,I⟩)));omega
 ·have:=h.own b (h.vob (U b d)).1;omega
def UJ (a:zb (jw ROu D w) q l): ∀c∈q,∃i G n d,c=[ι i,δ G n d]:=λc H=>by
 obtain⟨o,_,I⟩:=a.mem c H;obtain⟨v,rfl,⟨G,d,rfl,_⟩,_⟩:=I.read;exact⟨_,_,_,_,rfl⟩
def Pg (a:zb (jw ROu D w) q l):(q.head?.map idN).getD 0=(l.head?.map (·.1)).getD 0:=by
 cases l with
 | nil=>rw[a.nil_r];rfl
 | cons o l=>
  obtain⟨c,q',rfl,d,_⟩:=a.uncons;obtain⟨v,rfl,_⟩:=d.read;rfl
end Go.Proofs.YtmgaiiffmheabaaGreatDoor
