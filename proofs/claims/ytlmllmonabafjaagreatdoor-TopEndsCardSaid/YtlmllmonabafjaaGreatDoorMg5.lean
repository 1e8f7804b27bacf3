/- Contracts of the functions that the law reaches, and plain laws; no conditions but those written at each. -/
import Derived.Test.YtlmllmonabafjaaGreatDoorMg4
namespace Go.Proofs.YtlmllmonabafjaaGreatDoor
open Go.Value renaming bool->μ,slice->δ,pointer->π,agg->θ
open Go.IntKind renaming i64->ι,u8->υ,u16->φ,u32->ω,i32->χ,u64->ψ
open _root_.Go.Proofs.Tryz
set_option linter.unusedSimpArgs false
set_option maxHeartbeats 8000000
set_option linter.unusedVariables false
open Go.RowKit
set_option maxRecDepth 100000
theorem UH (w:World) (R A room first:Nat) (q:List (List Value)) (U ae ac ad:Int) (css:List (List Value)) (h:qN 14 330 255 w R A room first q U ae ac ad css) (aG:q.length<room) (x:List Value) (N:x.length=14/\ ∀u∈x,u.oneCell'=true):
  Calls prog 199 #[γ R,θ x.toArray] w λe w'=>e= .returned (.tuple #[Γb,μ false,ι 0])/\(∃ci',qN 14 330 255 w' R A room first (q++[x]) ci' ae ac ad (css.set ((first+q.length)%room) x))/\qg (RgB R A) w w':=by
 have ao:=κ h;have aM:R<w.heap.size:=qn h.ring;have aL:A<w.heap.size:=qn h.row;have aU:(((w.alloc (.cells x.toArray 255)).alloc (.cells Γb 255)).alloc (.cells Γb 255)).cell? ⟨R,3,none⟩=some (μ false):=qb (qs (qs (qs h.ring _) _) _) 3 rfl;have aF:decide (q.length=room)=false:=by simp;omega
 clear h
 go_enter func199,ntmps199
 go_wp2_with (first | (go_at_call 120;((with_reducible refine(Hf (ao.o.more (((qa.refl w).al _).al _ |>.al _))).mono ?_);rintro e ab ⟨rfl,aS,Y⟩;rw[aF];have ag:Hid (qa w ab):=κ (by rw[Y];exact(((qa.refl w).al _).al _ |>.al _).dr _);have ar:Hid (ab.heap[w.heap.size]? =some (.cells x.toArray 255 (0,0))):=κ (by rw[Y];exact qr (qs (qs (qj _ _) _) _) _);have ai:Hid (ab.heap[w.heap.size+1]? =some (.cells Γb 255 (0,0))):=κ (by rw[Y];exact qr (qs (qC η) _) _);have am:Hid (ab.heap[w.heap.size+2]? =some (.cells Γb 255 (0,0))):=κ (by rw[Y];exact qr (qC η) _);clear Y)))
 obtain⟨G,H⟩: ∃G,G=ab:=⟨_,rfl⟩;have d:Hid (qN 14 330 255 G R A room first q U ae ac ad css):=κ (by rw[H];exact ao.o.more ag.o);have ah:Hid (qg (RgB R A) w G):=κ (by rw[H];exact qg.of_more ag.o);have au:Hid (G.heap[w.heap.size]? =some (.cells x.toArray 255 (0,0))):=κ (by rw[H];exact ar.o);have aj:Hid (G.heap[w.heap.size+1]? =some (.cells Γb 255 (0,0))):=κ (by rw[H];exact ai.o);have an:Hid (G.heap[w.heap.size+2]? =some (.cells Γb 255 (0,0))):=κ (by rw[H];exact am.o);have aH:q.length<room:=aG;rw[<-H];clear H ag ar ai am;obtain⟨f,aq⟩: ∃f,Hid (f=first):=⟨_,κ rfl⟩;obtain⟨cs,ap⟩: ∃cs,Hid (cs=css):=⟨_,κ rfl⟩;rw[<-aq.o,<-ap.o] at d;have az: ∀x:qt G,x.w'.cell? ⟨R,0,none⟩=some (δ (some ⟨A,0,none⟩) room room):=λx=>x.cell (qn d.o.ring) (qb d.o.ring 0 rfl)
 have aA: ∀x:qt G,x.w'.cell? ⟨R,1,none⟩=some (ι f):=λx=>x.cell (qn d.o.ring) (qb d.o.ring 1 rfl)
 have aB: ∀x:qt G,x.w'.cell? ⟨R,2,none⟩=some (ι q.length):=λx=>x.cell (qn d.o.ring) (qb d.o.ring 2 rfl)
 have aP:((f:Int)+(q.length:Int))%(room:Int)=(((f+q.length)%room:Nat):Int):=by rw[Int.natCast_emod];rfl
 have aE:(f+q.length)%room<room:=Nat.mod_lt _ τ;have hi:(((f+q.length)%room:Nat):Int)<(room:Int):=by omega
 have aQ:=d.o.pos;have aN:=d.o.fst;have aO:(f:Int)<=8:=by omega
 have aR:(q.length:Int)<=8:=by omega
 generalize aD:(f+q.length)%room=I at *;refine Qn G 21 22 [21] ?_
 refine Ny ?_
 refine jh rfl rfl (qk ρ) 255 (.tmp 3) rfl w.heap.size 0 rfl x _ (λw' aI=>by obtain⟨y,rfl⟩:=aI;exact xy (qc y.h au.o)) underlying255 rfl (by rw[N.1];kernel_rfl) ?_;intro K aa;go_simp;refine aa _ ?_;clear aa K
 refine Qq1 ?_
 refine zY rfl rfl ζ ?_;intro K aa;refine zF 255 (.tmp 48) (.tmp 47) rfl A (I* 14) 255 cs.flatten.toArray x rfl rfl (qr d.o.row 1) (by rw[d.o.size,N.1];have:=Nat.mul_le_mul_right 14 (show I+1<=room by omega);omega) (by rw[N.1];kernel_rfl) N.2 ?_;refine⟨trivial, ?_⟩;go_simp;refine aa _ _ ?_;clear aa K az aA aB;refine qA ?_;obtain⟨W6,J⟩:=ν ((G.drewN 1).setRow A (xQ cs.flatten (I* 14) x).toArray);have ax:Hid (qg (RgB R A) w W6):=κ (by rw[<-J];exact(ah.o.drewN 1).row (Or.inr rfl) _);have O:Hid (W6.heap[R]? =some (.cells (jV A room f q.length U ae ac ad) 330 (0,0))):=κ (by rw[<-J];exact qS (qr d.o.ring 1) _ d.o.ne);have aC:Hid (W6.heap[A]? =some (.cells (cs.set I x).flatten.toArray 255 (0,0))):=κ (by rw[<-J,<-JO cs I _ d.o.cl N.1 (by rw[d.o.len];exact aE)];exact jY (qr d.o.row 1) _);have ak:Hid (W6.heap[w.heap.size+1]? =some (.cells Γb 255 (0,0))):=κ (by rw[<-J];exact qS (qr aj.o 1) _ τ);have ay:Hid (W6.heap[w.heap.size+2]? =some (.cells Γb 255 (0,0))):=κ (by rw[<-J];exact qS (qr an.o 1) _ τ);rw[J];clear J ah au aj an;have av:w.heap.size+2≠R:=by omega
 have af:w.heap.size+1≠R:=by omega
 have aT:W6.cell? ⟨R,2,none⟩=some (ι q.length):=qb O.o 2 rfl;have aJ:W6.frozen? ⟨R,2,none⟩=false:=qd O.o 2;have aV:W6.cell? ⟨R,4,none⟩=some (ι U):=qb O.o 4 rfl;have aK:W6.frozen? ⟨R,4,none⟩=false:=qd O.o 4
 go_wp2_with (first | (refine yL (.load 255 (.tmp 7)) rfl ?_;refine vO rfl 255 (.tmp 7) rfl (w.heap.size+2) 255 Γb _ (qo (qo ay.o ⟨R,2,none⟩ _ av) ⟨R,4,none⟩ _ av) rfl underlying255 rfl ξ ?_) | (refine yL (.store 255 (.tmp 4) (.tmp 65)) rfl ?_;refine xW rfl 255 (.tmp 4) (.tmp 65) rfl (w.heap.size+1) 255 _ Γb (qo (qo ak.o ⟨R,2,none⟩ _ af) ⟨R,4,none⟩ _ af) rfl rfl ξ rfl (all_oneCell_toArray zokC.2) ?_))
 have aw:R≠A:=d.o.ne;refine bodyPost_ret (v:= .tuple #[Γb,μ false,ι 0]) (KW results199 _ _ (w.heap.size+1) 255 Γb _ _ _ rfl rfl rfl (jY (qo (qo ak.o ⟨R,2,none⟩ _ af) ⟨R,4,none⟩ _ af) _) underlying255 rfl ξ) rfl ?_;subst aD;obtain rfl:=aq.o;obtain rfl:=ap.o;refine⟨rfl,⟨wrap64 (U+1),d.o.put aH N ?_ ?_⟩,((ax.o.set (Or.inl rfl) _).set (Or.inl rfl) _).rowNew τ _⟩
 ·exact qS (qB (qp (qp O.o 2 _) 4 _) rfl) _ τ
 ·exact qS (qo (qo aC.o _ _ (Ne.symm aw)) _ _ (Ne.symm aw)) _ τ
theorem Ah (c:List Value) (h:c.length=14): ∃a0 a1 a2 a3 a4 a5 a6 a7 a8 a9 a10 a11 a12 a13,c=[a0,a1,a2,a3,a4,a5,a6,a7,a8,a9,a10,a11,a12,a13]:=by
 match c,h with
 | [a0,a1,a2,a3,a4,a5,a6,a7,a8,a9,a10,a11,a12,a13],_=>exact⟨a0,a1,a2,a3,a4,a5,a6,a7,a8,a9,a10,a11,a12,a13,rfl⟩
theorem YD {S:Nat->Prop} {w w':World} {base e n m:Nat} {v:Value} {xs:List Value} (h:w.ownsRow base e n v m xs) (a:qg S w w') (H: ∀b,base<=b-> ¬S b):w'.ownsRow base e n v m xs:=by
 obtain⟨d,G⟩:=h;refine⟨d, ?_⟩;rcases G with h | ⟨b,cap,cur,e1,hb,hg,rest⟩
 ·exact Or.inl h
 ·exact Or.inr ⟨b,cap,cur,e1,hb,a.blk hg (H b hb),rest⟩
theorem DP {w:World} {base e size n b:Nat} {v:Value} {xs:List Value} (h:w.ownsRow base e size v n xs) (d:v.ownBlock=some b):base<=b:=by
 rcases h.2 with ⟨rfl,_⟩ | ⟨g,cap,cur,rfl,G,_⟩
 ·cases d
 ·obtain rfl:g=b:=by injection d
  exact G
theorem BU {w:World} {base e size n:Nat} {v:Value} {xs:List Value} (h:w.ownsRow base e size v n xs): ∃oa cap,v= δ oa n cap:=by
 rcases h.2 with ⟨rfl,d⟩ | ⟨g,cap,cur,rfl,_⟩
 ·exact⟨none,0,by rw[d]⟩
 ·exact⟨_,cap,rfl⟩
theorem IO (w:World) (R A room first:Nat) (q:List (List Value)) (J N H I:Int) (css:List (List Value)) (h:qN 14 330 255 w R A room first q J N H I css):
  Calls prog 183 #[γ R] w λe w'=> ∃v,e= .returned v/\w'.ownsRow w.heap.size 255 14 v q.length q.flatten/\(∃first' cg' css',qN 14 330 255 w' R A room first' [] J N H cg' css')/\qg (RgB R A) w w':=by
 obtain⟨aP,aQ,aR,aS,aT⟩:=info_parts (P:=prog) (e:=255) (z:= Γb) (size:=14) (bytes:=128) ξ;have aB:=κ h;have aX:R<w.heap.size:=qn h.ring;have aW:A<w.heap.size:=qn h.row;have bd:w.cell? ⟨R,2,none⟩=some (ι q.length):=qb h.ring 2 rfl;have bb:(q.length:Int)<=8:=by have:=h.fits;have:=h.pos.2;omega
 have aH:=κ h.qall;clear h
 go_enter func183,ntmps183
 go_wp2
 go_loopw [3,8] (λu an wr=> ∃(j f:Nat) (cs:List (List Value)),j<=q.length/\an= ι j/\(∃ay ax ar,u= δ ay ax ar)/\wr.ownsRow w.heap.size 255 14 u j (q.take j).flatten/\qN 14 330 255 wr R A room f (q.drop j) J N H I cs/\qg (RgB R A) w wr) (λ_ an _=>q.length-(intOf an).toNat)
 case atStart=>exact⟨0,first,css,τ,rfl,⟨_,_,_,rfl⟩,World.ownsRow_nil w _ _ _,aB.o,qg.refl _ _⟩
 case round=>
  obtain⟨j,f,cs,aZ,rfl,⟨ay,ax,ar,rfl⟩,d,aw,av⟩:=hrel;have ao:=κ d;have G:=κ aw;have ai:=κ av;clear d aw av;by_cases hlt:j<q.length
  ·have ak:q.drop j=q[j]::q.drop (j+1):=List.drop_eq_getElem_cons hlt;have am:q.take (j+1)=q.take j++[q[j]]:=by rw[List.take_add_one,List.getElem?_eq_getElem hlt];rfl
   have ah:=aH.o q[j] (List.getElem_mem hlt);have ba:(j:Int)<(q.length:Int):=by omega
   obtain⟨c,aJ⟩: ∃c,Hid (c=q[j]):=⟨_,κ rfl⟩;rw[<-aJ.o] at ak am ah;have aE:=κ (ak▸G.o);have aF:=κ am;have aY:c.toArray.size=14:=by simpa using ah.1
   clear ak am G;obtain⟨a0,U,ad,a3,a4,a5,ae,af,ag,a9,Y,aa,ab,ac,rfl⟩:=Ah c ah.1
   go_wp2_with (first | (go_at_call 239;(go_call F6 wr R A room f [a0,U,ad,a3,a4,a5,ae,af,ag,a9,Y,aa,ab,ac] (q.drop (j+1)) J N H I cs aE.o as e w5 ⟨rfl,au,a5⟩;have aC:=κ au;have az:=κ a5;have O:=κ (YD ao.o a5 (λb aj e=>by rcases e with e | e<;>omega));have aI:Hid (w.heap.size<=w5.heap.size):=κ (Nat.le_trans ai.o.size a5.size);clear au a5)) | (at_builtin;refine wpList_append_own_at _ rfl (.tmp 10) (.tmp 13) 328 rfl w.heap.size 255 aP (Γb) 14 128 underlying328 aQ aR aS aT rfl ζ _ j (q.take j).flatten rfl (YD O.o (qg.of_more (qa.alloc _ _)) (λb _ e=>e)) ⟨w5.heap.size,0,none⟩ 1 1 [a0,U,ad,a3,a4,a5,ae,af,ag,a9,Y,aa,ab,ac] rfl rfl (λi u aM=>by have:=xy (cs:=[a0,U,ad,a3,a4,a5,ae,af,ag,a9,Y,aa,ab,ac]) (t:=255) (qj w5 (.cells #[a0,U,ad,a3,a4,a5,ae,af,ag,a9,Y,aa,ab,ac] 255)) i u aM;rw[Addr.add_mid];exact this) ah.2 (by unfold maxLen;omega) τ (by have:=aI.o;simp;omega) ?_;intro v6 w6 d al aK aN;have aG:=κ d;have aA:Hid (qg (RgB R A) w w6):=κ (((ai.o.trans az.o).alc _).grown al (λb aj=>DP O.o aj));have aD:Hid (qN 14 330 255 w6 R A room ((f+1)%room) (q.drop (j+1)) J N H I (cs.set f Γb)):=κ ((aC.o.more (qa.alloc _ _)).away (qg.of_grown al) (λe=>by have:=DP O.o e;omega) (λe=>by have:=DP O.o e;omega));obtain⟨bc,aU,rfl⟩:=BU d;clear d al aK aN))
   go_roundw
   case rel=>exact⟨j+1,(f+1)%room,_,τ,by go_num,⟨_,_,_,rfl⟩,by rw[aF.o,List.flatten_append];simpa using aG.o,aD.o,aA.o⟩
   case measure=>simp[intOf];omega
  ·obtain rfl:j=q.length:=by omega
   have be:wr.cell? ⟨R,7,none⟩=some (ι I):=qb G.o.ring 7 rfl;have aV:wr.frozen? ⟨R,7,none⟩=false:=qd G.o.ring 7;go_wp2;go_ret;have aO:q.drop q.length=[]:=by simp
   have aL:q.take q.length=q:=by simp
   have aq:=G.o;have ap:=ao.o;rw[aO] at aq;rw[aL] at ap;exact⟨_,rfl,YD ap ((qg.refl (λb=>b=R) _).set rfl _) (λb aj e=>by omega),⟨_,_,_,aq.drained _⟩,ai.o.set (Or.inl rfl) _⟩
theorem Fm (i:Int) (c:List Value) (d:c.length=13) (w:World):Calls prog 184 #[θ (ι i::c).toArray] w λe w'=>e= .returned (ι i)/\qa w w':=by
 obtain⟨a0,G,O,a3,a4,a5,U,Y,aa,a9,H,I,J,N,h⟩:=Ah (ι i::c) (by simp[d]);obtain⟨rfl,rfl⟩:a0= ι i/\c=[G,O,a3,a4,a5,U,Y,aa,a9,H,I,J,N]:=by
  injection h with h1 h2
  exact⟨h1.symm,h2⟩
 clear h d
 go_enter func184,ntmps184
 go_wp2;go_ret;exact⟨rfl,ρ⟩
section
open _root_.Go.Proofs.Tryz renaming func182->Ξa,ntmps182->Ξb,underlying255->Ξf
open _root_.Go.Proofs.YtlmllmonabafjaaGreatDoor renaming Fm->Ξc,Ν14->Ξd,Ν255->Ξe,Γb->Ξg
theorem Nm (w:World) (v:Value) (q:List (List Value)) (base:Nat) (row:w.ownsRow base 255 14 v q.length q.flatten) (aa: ∀c∈q,∃i r,c= ι i::r/\r.length=13) (ai: ∀c∈q,∀u∈c,u.oneCell'=true) (aN:q.length<=8):
  Calls prog 182 #[v,.func (.func 184) #[] #[]] w λe w'=>(∃v',e= .returned v'/\w'.ownsRow w.heap.size 3 1 v' (q.map idN).length ((q.map idN).map (Value.int .i64)))/\qa w w':=Ψ6
end
structure LnB where
 L:Nat
 R1:Nat
 A1:Nat
 R2:Nat
 A2:Nat
 R3:Nat
 A3:Nat
def LnB.muts (k:LnB) (b:Nat):Prop:=b=k.L∨RgB k.R1 k.A1 b∨RgB k.R2 k.A2 b∨RgB k.R3 k.A3 b
def jQ (k:LnB) (vo:Value) (s:LnS):Array Value:=
 #[vo,.pointer (some ⟨k.R1,0,none⟩),.pointer (some ⟨k.R2,0,none⟩),.pointer (some ⟨k.R3,0,none⟩),.bool s.wanted,.int .i64 s.cur,.int .i64 s.tgt,
  .int .u32 s.rw.src,.int .u16 s.rw.sq,.int .u32 s.rw.st,.bool s.rw.any,.int .u32 s.rw.last,.int .u32 s.rw.shift,.int .i64 s.most,.int .i64 s.row,.bool s.gone]
def lnD (N:Nat->Prop) (k:LnB) (b:Nat):Prop:=N b->k.muts b
def lnE (N:Nat->Prop) (k:LnB) (vo:Value) (b:Nat):Prop:=lnD N k b∨vo.ownBlock=some b
def lnM (k:LnB) (vo:Value) (b:Nat):Prop:=k.muts b∨vo.ownBlock=some b
def xf (N:Nat->Prop) (w w':World) (b:Nat):Prop:=N b∨(w.heap.size<=b/\b<w'.heap.size)
structure KM (s:LnS):Prop where
 most:1<=s.most/\s.most<=10
 row:0<=s.row/\s.row<=s.most
 lt:s.gone=false->s.row<s.most
 sq:U16 s.rw.sq
 src:U32 s.rw.src
structure LnX (N:Nat->Prop) (w:World) (k:LnB) (vo:Value) (s:LnS):Prop where
 own: ∀b,N b->b<w.heap.size
 muts: ∀b,k.muts b->N b
 dist:(k.L≠k.R1/\k.L≠k.A1/\k.L≠k.R2/\k.L≠k.A2/\k.L≠k.R3/\k.L≠k.A3)/\(k.R1≠k.A1/\k.R1≠k.R2/\k.R1≠k.A2/\k.R1≠k.R3/\k.R1≠k.A3)/\(k.A1≠k.R2/\k.A1≠k.A2/\k.A1≠k.R3/\k.A1≠k.A3)/\(k.R2≠k.A2/\k.R2≠k.R3/\k.R2≠k.A3)/\(k.A2≠k.R3/\k.A2≠k.A3)/\k.R3≠k.A3
 blk:w.heap[k.L]? =some (.cells (jQ k vo s) 153 (0,0))
 r1:RgR 13 327 253 RIt (lnE N k vo) w k.R1 k.A1 s.room s.A
 r2:RgR 14 330 255 RCh (lnE N k vo) w k.R2 k.A2 s.room s.B
 r3:RgR 2 332 56 ROu (lnE N k vo) w k.R3 k.A3 s.room s.C
 o:je 2 ROu (lnD N k) w 0 56 vo s.W
 ok:KM s
def zw (N:Nat->Prop) (w:World) (L:Nat) (s:LnS):Prop:= ∃k vo,k.L=L/\LnX N w k vo s
section
variable {N:Nat->Prop} {w w':World} {k:LnB} {vo vo':Value} {s s':LnS}
theorem LnX.vob (h:LnX N w k vo s) {b:Nat} (d:vo.ownBlock=some b):N b/\ ¬k.muts b:=by
 have:=h.o.apart b d;unfold lnD at this;exact Classical.not_imp.1 this
theorem LnX.inN (h:LnX N w k vo s) {b:Nat} (d:lnM k vo b):N b:=by
 rcases d with e | e
 ·exact h.muts b e
 ·exact(h.vob e).1
theorem Mc {b:Nat} (d:lnM k vo b):lnE N k vo b:=by
 rcases d with e | e
 ·exact Or.inl λ_=>e
 ·exact Or.inr e
theorem kZ {b:Nat} (d:k.muts b):lnE N k vo b:=Or.inl λ_=>d
theorem LnX.away (h:LnX N w k vo s) {S:Nat->Prop} (a:qg S w w') (O: ∀b,S b-> ¬N b):LnX N w' k vo s:=by
 have G: ∀b,k.muts b-> ¬S b:=λb d H=>O b H (h.muts b d)
 have I: ∀b,S b->lnE N k vo b:=λb H=>Or.inl λJ=>absurd J (O b H)
 refine⟨λb d=>Nat.lt_of_lt_of_le (h.own b d) a.size,h.muts,h.dist,a.blk h.blk (G _ (Or.inl rfl)), ?_, ?_, ?_, ?_,h.ok⟩
 ·exact h.r1.step a (G _ (Or.inr (Or.inl (Or.inl rfl)))) (G _ (Or.inr (Or.inl (Or.inr rfl)))) I (λb d=>Or.inl d)
 ·exact h.r2.step a (G _ (Or.inr (Or.inr (Or.inl (Or.inl rfl))))) (G _ (Or.inr (Or.inr (Or.inl (Or.inr rfl))))) I (λb d=>Or.inl d)
 ·exact h.r3.step a (G _ (Or.inr (Or.inr (Or.inr (Or.inl rfl))))) (G _ (Or.inr (Or.inr (Or.inr (Or.inr rfl))))) I (λb d=>Or.inl d)
 ·exact h.o.step (a.mono λb H J=>absurd J (O b H))
theorem LnX.on (h:LnX N w k vo s) (m:qa w w'):LnX N w' k vo s:=h.away (S:=λ_=>False) (qg.of_more m) (λ_ e=>e.elim)
theorem zw.away {L:Nat} (h:zw N w L s) {S:Nat->Prop} (a:qg S w w') (d: ∀b,S b-> ¬N b):zw N w' L s:=by
 obtain⟨k,vo,e,x⟩:=h;exact⟨k,vo,e,x.away a d⟩
theorem zw.on {L:Nat} (h:zw N w L s) (m:qa w w'):zw N w' L s:=by
 obtain⟨k,vo,e,x⟩:=h;exact⟨k,vo,e,x.on m⟩
theorem xE (h: ∀b,N b->b<w.heap.size) (H: ∀b,vo'.ownBlock=some b->vo.ownBlock=some b∨w.heap.size<=b) {b:Nat} (G:lnE (xf N w w') k vo' b):lnE N k vo b:=by
 rcases G with e | e
 ·exact Or.inl λd=>e (Or.inl d)
 ·rcases H b e with e1 | e1
  ·exact Or.inr e1
  ·exact Or.inl λd=>by have:=h b d;omega
theorem EP {b:Nat} (G:lnD (xf N w w') k b):lnD N k b:=λd=>G (Or.inl d)
theorem LnX.held {α:Type} {R:qL α} {c:List Value} {y:α} (h:LnX N w k vo s) (G:jw R (lnE N k vo) w c y) (a:qg (lnM k vo) w w') (H: ∀b,vo'.ownBlock=some b->vo.ownBlock=some b∨w.heap.size<=b):jw R (lnE (xf N w w') k vo') w' c y:=
 (G.step (a.mono λ_=>Mc)).other λ_ d=>Or.inl (xE h.own H d)
theorem LnX.rows (h:LnX N w k vo s) (a:qg k.muts w w'):je 2 ROu (lnD (xf N w w') k) w' 0 56 vo s.W:=by
 have H:=h.o.step (a.mono λb d _=>d);obtain⟨⟨xs,o,r⟩,G⟩:=H;refine⟨⟨xs,o,λi hi=>(r i hi).other λb d=>Or.inl (xE h.own (λ_ e=>Or.inl e) d)⟩,λb d I=>G b d (EP I)⟩
theorem LnX.make (h:LnX N w k vo s) (Y:w.heap.size<=w'.heap.size)
  (G:w'.heap[k.L]? =some (.cells (jQ k vo' s') 153 (0,0)))
  (J:RgR 13 327 253 RIt (lnE (xf N w w') k vo') w' k.R1 k.A1 s'.room s'.A)
  (O:RgR 14 330 255 RCh (lnE (xf N w w') k vo') w' k.R2 k.A2 s'.room s'.B)
  (U:RgR 2 332 56 ROu (lnE (xf N w w') k vo') w' k.R3 k.A3 s'.room s'.C)
  (I:je 2 ROu (lnD (xf N w w') k) w' 0 56 vo' s'.W) (H:KM s'):LnX (xf N w w') w' k vo' s':=
 ⟨λb d=>by
  rcases d with e | e
  ·exact Nat.lt_of_lt_of_le (h.own b e) Y
  ·exact e.2,λb d=>Or.inl (h.muts b d),h.dist,G,J,O,U,I,H⟩
theorem LnX.grow (h:LnX N w k vo s) (m:qa w w'):LnX (xf N w w') w' k vo s:=by
 have H:=h.on m;have a:qg (λ_=>False) w w':=qg.of_more m;have d: ∀b,lnE (xf N w w') k vo b->lnE N k vo b∨w'.heap.size<=b:=λb G=>Or.inl (xE h.own (λ_ e=>Or.inl e) G)
 exact h.make m.size H.blk (h.r1.step a (λe=>e) (λe=>e) (λ_ e=>e.elim) d) (h.r2.step a (λe=>e) (λe=>e) (λ_ e=>e.elim) d) (h.r3.step a (λe=>e) (λe=>e) (λ_ e=>e.elim) d) (h.rows (qg.of_more m)) h.ok
end
theorem Iz {P:Program} {H:Func} {p:Tmp} {d:TypeId} (h:H.results= #[.cell p d]) (tmps:Array Value) (w:World) (g:Nat) (t:TypeId) (cs:Array Value) (G:TypeDesc)
  (N:tmps.getD p undef= γ g) (J:w.heap[g]? =some (.cells cs t (0,0)))
  (U:P.underlying d=some G) (I:(match G with | .struct _ | .array _ _=>true | _=>false)=true) (hi:(P.info? d).map (·.size)=some cs.size):
  (results H tmps).run P w= .ok (θ cs) w:=by
 have O:tmps[p]?.getD undef= γ g:=by simpa using N
 simp[results,h,O,asAddr,run_loadVar_row w g t d cs (0,0) G J U I hi]
section
variable {N:Nat->Prop} {w:World} {k:LnB} {vo:Value} {s:LnS}
theorem gF (h:LnX N w k vo s):Calls prog 69 #[γ k.L] w λe w'=>e= .returned (μ s.gone)/\qa w w':=by
 have d:w.cell? ⟨k.L,15,none⟩=some (μ s.gone):=qb h.blk 15 rfl;clear h
 go_enter func69,ntmps69
 go_wp2;go_ret;exact⟨rfl,ρ⟩
theorem WV (h:LnX N w k vo s) {w':World} (m:qa w w'):Calls prog 113 #[γ k.R1] w' λe w''=>e= .returned (ι s.A.length)/\w''=w':=by
 obtain⟨f,q,J,O,H,I,css,d,G⟩:=(h.on m).r1;rw[<-G.len];exact Ni d
theorem WU (h:LnX N w k vo s) {w':World} (m:qa w w'):Calls prog 114 #[γ k.R2] w' λe w''=>e= .returned (ι s.B.length)/\w''=w':=by
 obtain⟨f,q,J,O,H,I,css,d,G⟩:=(h.on m).r2;rw[<-G.len];exact Nj d
theorem WT (h:LnX N w k vo s) {w':World} (m:qa w w'):Calls prog 115 #[γ k.R3] w' λe w''=>e= .returned (ι s.C.length)/\w''=w':=by
 obtain⟨f,q,J,O,H,I,css,d,G⟩:=(h.on m).r3;rw[<-G.len];exact Nh d
theorem Cj (h:LnX N w k vo s) {w':World} (m:qa w w'):Calls prog 120 #[γ k.R2] w' λe w''=>e= .returned (μ (decide (s.B.length=s.room)))/\qa w' w'':=by
 obtain⟨f,q,J,O,H,I,css,d,G⟩:=(h.on m).r2;rw[<-G.len];refine(Hf d).mono ?_;rintro e w'' ⟨rfl,n,rfl⟩;exact⟨rfl,(qa.refl _).dr n⟩
theorem YA (h:LnX N w k vo s):Calls prog 74 #[γ k.L,ι 1] w λe w'=>e= .returned (μ (vC s 1))/\qa w w':=by
 have c1:w.cell? ⟨k.L,1,none⟩=some (π (some ⟨k.R1,0,none⟩)):=qb h.blk 1 rfl;have c2:w.cell? ⟨k.L,2,none⟩=some (π (some ⟨k.R2,0,none⟩)):=qb h.blk 2 rfl;have U:vC s 1=(decide (0<s.A.length)&&decide (¬s.B.length=s.room)):=rfl;have J:=κ (WV h (qa.refl w));have d:=κ (Cj h (qa.refl w));rw[U];clear h U;obtain⟨b,G⟩:=ν (decide (s.B.length=s.room));rw[G] at d;have O:decide (¬s.B.length=s.room)= !b:=by rw[<-G];simp
 rw[O];clear G O;by_cases hl:0<s.A.length
 ·have Y:(0:Int)<(s.A.length:Int):=by omega
  have H:decide (0<s.A.length)=true:=by simp;omega
  rw[H]
  go_enter func74,ntmps74
  go_wp2_with (first | (go_at_call 113;(go_call J.o as e w1 ⟨rfl,rfl⟩)) | (go_at_call 120;(go_call d.o as e w2 ⟨rfl,I⟩)))
  all_goals (go_ret;first | exact⟨η,I⟩ | exact⟨η,qa.refl _⟩)
 ·have Y: ¬(0:Int)<(s.A.length:Int):=by omega
  have H:decide (0<s.A.length)=false:=decide_eq_false hl;rw[H]
  go_enter func74,ntmps74
  go_wp2_with (first | (go_at_call 113;(go_call J.o as e w1 ⟨rfl,rfl⟩)) | (go_at_call 120;(go_call d.o as e w2 ⟨rfl,I⟩)))
  all_goals (go_ret;first | exact⟨η,I⟩ | exact⟨η,qa.refl _⟩)
theorem Yz (h:LnX N w k vo s):Calls prog 74 #[γ k.L,ι 2] w λe w'=>e= .returned (μ (vC s 2))/\qa w w':=by
 have c2:w.cell? ⟨k.L,2,none⟩=some (π (some ⟨k.R2,0,none⟩)):=qb h.blk 2 rfl;have d:vC s 2=decide (0<s.B.length):=rfl;have G:=κ (WU h (qa.refl w));rw[d];clear h d
 go_enter func74,ntmps74
 go_wp2_with (go_at_call 114;(go_call G.o as e w1 ⟨rfl,rfl⟩))
 go_ret;exact⟨η,qa.refl _⟩
theorem Jy (h:LnX N w k vo s):Calls prog 74 #[γ k.L,ι 3] w λe w'=>e= .returned (μ (vC s 3))/\qa w w':=by
 have c3:w.cell? ⟨k.L,3,none⟩=some (π (some ⟨k.R3,0,none⟩)):=qb h.blk 3 rfl;have d:vC s 3=decide (0<s.C.length):=rfl;have G:=κ (WT h (qa.refl w));rw[d];clear h d
 go_enter func74,ntmps74
 go_wp2_with (go_at_call 115;(go_call G.o as e w1 ⟨rfl,rfl⟩))
 go_ret;exact⟨η,qa.refl _⟩
theorem ER (h:LnX N w k vo s):Calls prog 68 #[γ k.L] w λe w'=>e= .returned (θ #[ι s.A.length,ι s.B.length,ι s.C.length])/\qa w w':=by
 have H:=κ h;clear h
 go_enter func68,ntmps68
 go_wp2;obtain⟨W1,J⟩:=ν (w.alloc (.cells #[ι 0,ι 0,ι 0] 104));have G:Hid (qa w W1):=κ (by rw[<-J];exact qa.alloc _ _);have O:Hid (W1.heap[w.heap.size]? =some (.cells #[ι 0,ι 0,ι 0] 104 (0,0))):=κ (by rw[<-J];exact qj w _);rw[J];clear J;have I:=λ(x:qt W1)=>qc (G.o.trans x.h) H.o.blk
 have c1:=λx=>β1 (I x);have c2:=λx=>β2 (I x);have c3:=λx=>β3 (I x);clear I
 refine zC W1 16 [(0,false),(1,false),(2,false),(3,false),(5,false),(6,false),(7,false),(8,false),(10,false),(11,false),(12,false),(13,false),(4,true),(9,true),(14,true),(15,false),(16,true)] ξ ξ ?_
 refine Qs ?_
 (refine Ql ?_;intro K d)
 go_call WV H.o (G.o.dr 1) as e w2 ⟨rfl,rfl⟩;refine⟨_,rfl,qk ρ,d _ _ ?_⟩;clear d K
 (refine Ql ?_;intro K d)
 go_call WU H.o (G.o.dr 1) as e w2 ⟨rfl,rfl⟩;refine⟨_,rfl,qk ρ,d _ _ ?_⟩;clear d K
 (refine Ql ?_;intro K d)
 go_call WT H.o (G.o.dr 1) as e w2 ⟨rfl,rfl⟩;refine⟨_,rfl,qk ρ,d _ _ ?_⟩;clear d K
 refine Qq1 ?_
 refine zY rfl rfl ζ ?_;intro K d;refine jr 104 (.tmp 2) (.tmp 18) rfl w.heap.size 104 _ #[ι s.A.length,ι s.B.length,ι s.C.length] rfl rfl (qr O.o 1) ξ rfl (all_oneCell_toArray (by simp[Value.oneCell'])) ?_;refine⟨trivial, ?_⟩;go_simp;refine d _ _ ?_;clear d K;refine qA ?_;go_wp2;refine bodyPost_ret (v:= θ #[ι s.A.length,ι s.B.length,ι s.C.length]) (Iz results68 _ _ w.heap.size 104 #[ι s.A.length,ι s.B.length,ι s.C.length] _ rfl (jY (qr O.o 1) _) underlying104 rfl ξ) rfl ?_;exact⟨rfl,(xb _ _ _).to_more (G.o.dr 1) (λk e=>by rw[e];exact Nat.le_refl _)⟩
theorem AJ (h:LnX N w k vo s):Calls prog 67 #[γ k.L] w λe w'=>e= .returned (.tuple #[θ #[ι s.cur,ι s.tgt],s.wanted])/\qa w w':=by
 have O:=κ h;have ab:k.L<w.heap.size:=qn h.blk;clear h
 go_enter func67,ntmps67
 go_wp2;obtain⟨W1,H⟩:=ν (w.alloc (.cells #[ι 0,ι 0] 103));have I:Hid (qa w W1):=κ (by rw[<-H];exact qa.alloc _ _);have J:Hid (W1.heap[w.heap.size]? =some (.cells #[ι 0,ι 0] 103 (0,0))):=κ (by rw[<-H];exact qj w _);rw[H];clear H;have c4:=λ(x:qz (λb=>b=w.heap.size) W1)=>β4 (x.h.blk (qc I.o O.o.blk) τ)
 have Y: ∀x:qz (λb=>b=w.heap.size) W1,x.w'.rangeAt k.L 5 [ι s.cur,ι s.tgt]:=λx j v G=>by
  have U:=x.h.blk (qc I.o O.o.blk) (show ¬k.L=w.heap.size by omega)
  match j,G with
  | 0,G=>exact qb U 5 G
  | 1,G=>exact qb U 6 G
 refine QN (λb=>b=w.heap.size) W1 10 10 [8] ?_
 refine Qs3 ?_
 refine jh rfl rfl (qi σ) 103 (.tmp 6) rfl k.L 5 rfl [ι s.cur,ι s.tgt] _ (λw' aa=>by obtain⟨x,rfl⟩:=aa;exact Y x) underlying103 rfl ξ ?_;intro K d;go_simp;refine d _ ?_;clear d K
 refine Qs4 ?_
 refine jR rfl rfl ?_;intro K d;refine jr 103 (.tmp 2) (.tmp 7) rfl w.heap.size 103 _ #[ι s.cur,ι s.tgt] rfl rfl (qr J.o 1) ξ rfl (all_oneCell_toArray (by simp[Value.oneCell'])) ?_;refine⟨qi (((qg.refl (λb=>b=w.heap.size) W1).drewN 1).row (g:=w.heap.size) rfl _), ?_⟩;go_simp;refine d _ _ ?_;clear d K
 iterate 1 (refine qE rfl rfl (qi (((qg.refl (λb=>b=w.heap.size) W1).drewN 1).row (g:=w.heap.size) rfl _)) ?_;intro K d;go_big_quiet_op;go_big_quiet_on)
 refine qA ?_;go_wp2;refine bodyPost_ret (v:= .tuple #[θ #[ι s.cur,ι s.tgt],s.wanted]) (yo results67 _ _ w.heap.size 103 #[ι s.cur,ι s.tgt] _ _ rfl rfl (jY (qr J.o 1) _) underlying103 rfl ξ) rfl ?_;exact⟨rfl,(xb _ _ _).to_more (I.o.dr 1) (λk e=>by rw[e];exact Nat.le_refl _)⟩
end
section
variable {N:Nat->Prop} {w w':World} {k:LnB} {vo:Value} {s s':LnS}
theorem LnX.setL (h:LnX N w k vo s) (a:qg (λb=>b=k.L) w w') (J:w'.heap[k.L]? =some (.cells (jQ k vo s') 153 (0,0)))
  (e:s'.room=s.room/\s'.A=s.A/\s'.B=s.B/\s'.C=s.C/\s'.W=s.W) (ah:KM s'):LnX (xf N w w') w' k vo s':=by
 obtain⟨⟨O,U,Y,aa,ab,ac⟩,_⟩:=h.dist;obtain⟨G,ad,ae,af,ag⟩:=e;have H: ∀b,b=k.L->lnE N k vo b:=λb d=>kZ (Or.inl d)
 have I: ∀b,lnE (xf N w w') k vo b->lnE N k vo b∨w'.heap.size<=b:=λb d=>Or.inl (xE h.own (λ_ e=>Or.inl e) d)
 refine h.make a.size J ?_ ?_ ?_ ?_ ah
 ·rw[G,ad];exact h.r1.step a (Ne.symm O) (Ne.symm U) H I
 ·rw[G,ae];exact h.r2.step a (Ne.symm Y) (Ne.symm aa) H I
 ·rw[G,af];exact h.r3.step a (Ne.symm ab) (Ne.symm ac) H I
 ·rw[ag];exact h.rows (a.mono λb d=>Or.inl d)
theorem Ec (h:LnX N w k vo s) (n:Int):Calls prog 91 #[γ k.L,ι n] w λe w'=>e= .returned (ι (jO s n).2)/\LnX (xf N w w') w' k vo (jO s n).1/\qg N w w':=by
 have I:=κ h;have ak:k.L<w.heap.size:=qn h.blk;cases ht:jj n with
 | false=>
  have aa:=κ ht;have O:jO s n=(s,1):=by unfold jO;rw[if_pos ht]
  rw[O];clear O ht h
  go_enter func91,ntmps91
  go_wp2_with (go_at_call 151;(go_call xX n _ as e w1 ⟨rfl,rfl⟩;rw[aa.o]))
  go_ret;exact⟨rfl,I.o.grow (qa.refl _),qg.refl _ _⟩
 | true=>
  have aa:=κ ht;cases hg:s.gone with
  | true=>
   have O:jO s n=(s,7):=by unfold jO;rw[if_neg (by rw[ht];decide),if_pos hg]
   have J:=gF h;rw[hg] at J;have J:=κ J;rw[O];clear O ht h hg
   go_enter func91,ntmps91
   go_wp2_with (first | (go_at_call 151;(go_call xX n _ as e w1 ⟨rfl,rfl⟩;rw[aa.o])) | (go_at_call 69;(go_call J.o as e w2 ⟨rfl,U⟩;have ac:=κ U;clear U)))
   go_ret;exact⟨rfl,I.o.grow ac.o,qg.of_more ac.o⟩
  | false=>
   have O:jO s n=({s with wanted:=true,cur:=if s.wanted then s.cur else -1,tgt:=n},0):=by unfold jO;rw[if_neg (by rw[ht];decide),if_neg (by rw[hg];decide)]
   have J:=gF h;rw[hg] at J;have J:=κ J;rw[O];clear O ht h hg;cases hw:s.wanted with
   | true=>
    have ad:=κ hw;clear hw
    go_enter func91,ntmps91
    go_wp2_with (first | (go_at_call 151;(go_call xX n _ as e w1 ⟨rfl,O⟩;subst w1;rw[aa.o])) | (go_at_call 69;(go_call J.o as e w2 ⟨rfl,U⟩;have ac:=κ U;have Y:=κ (qc U I.o.blk);clear U;have c4:w2.cell? ⟨k.L,4,none⟩=some (μ true):=(by rw[<-ad.o];exact qb Y.o 4 rfl);have c5:w2.cell? ⟨k.L,5,none⟩=some (ι s.cur):=qb Y.o 5 rfl;have af:w2.cell? ⟨k.L,6,none⟩=some (ι s.tgt):=qb Y.o 6 rfl)) | (go_at_call 152;(go_call QT s.cur s.tgt n aa.o _ as e d ⟨rfl,ab⟩;have ae:Hid (qa w d):=κ (ac.o.trans ab);have G:=κ (qc ab Y.o);clear ab;have c5:d.cell? ⟨k.L,5,none⟩=some (ι s.cur):=qb G.o 5 rfl;have af:d.cell? ⟨k.L,6,none⟩=some (ι s.tgt):=qb G.o 6 rfl;have c4:d.cell? ⟨k.L,4,none⟩=some (μ s.wanted):=qb G.o 4 rfl;have ah:d.frozen? ⟨k.L,4,none⟩=false:=qd G.o 4;have ai:d.frozen? ⟨k.L,5,none⟩=false:=qd G.o 5;have aj:d.frozen? ⟨k.L,6,none⟩=false:=qd G.o 6)))
    go_ret;have A:qg (λb=>b=k.L) w (((d.setCell ⟨k.L,5,none⟩ (ι s.cur)).setCell ⟨k.L,6,none⟩ (ι n)).setCell ⟨k.L,4,none⟩ (μ true)):=(((qg.of_more (S:=λb=>b=k.L) ae.o).set (p:=⟨k.L,5,none⟩) rfl _).set (p:=⟨k.L,6,none⟩) rfl _).set (p:=⟨k.L,4,none⟩) rfl _;have H:=I.o.ok;exact⟨rfl,I.o.setL A (qB (qp (qp (qp G.o 5 _) 6 _) 4 _) (by rfl)) ⟨rfl,rfl,rfl,rfl,rfl⟩ ⟨H.most,H.row,H.lt,H.sq,H.src⟩,A.mono λb ag=>by rw[ag];exact I.o.muts _ (Or.inl rfl)⟩
   | false=>
    have ad:=κ hw;clear hw
    go_enter func91,ntmps91
    go_wp2_with (first | (go_at_call 151;(go_call xX n _ as e w1 ⟨rfl,O⟩;subst w1;rw[aa.o])) | (go_at_call 69;(go_call J.o as e w2 ⟨rfl,U⟩;have ac:=κ U;have Y:=κ (qc U I.o.blk);clear U;have c4:w2.cell? ⟨k.L,4,none⟩=some (μ false):=(by rw[<-ad.o];exact qb Y.o 4 rfl);have c5:w2.cell? ⟨k.L,5,none⟩=some (ι s.cur):=qb Y.o 5 rfl;have af:w2.cell? ⟨k.L,6,none⟩=some (ι s.tgt):=qb Y.o 6 rfl)) | (go_at_call 153;(go_call YS n aa.o _ as e d ⟨rfl,ab⟩;have ae:Hid (qa w d):=κ (ac.o.trans ab);have G:=κ (qc ab Y.o);clear ab;have c5:d.cell? ⟨k.L,5,none⟩=some (ι s.cur):=qb G.o 5 rfl;have af:d.cell? ⟨k.L,6,none⟩=some (ι s.tgt):=qb G.o 6 rfl;have c4:d.cell? ⟨k.L,4,none⟩=some (μ s.wanted):=qb G.o 4 rfl;have ah:d.frozen? ⟨k.L,4,none⟩=false:=qd G.o 4;have ai:d.frozen? ⟨k.L,5,none⟩=false:=qd G.o 5;have aj:d.frozen? ⟨k.L,6,none⟩=false:=qd G.o 6)))
    go_ret;have A:qg (λb=>b=k.L) w (((d.setCell ⟨k.L,5,none⟩ (ι (-1))).setCell ⟨k.L,6,none⟩ (ι n)).setCell ⟨k.L,4,none⟩ (μ true)):=(((qg.of_more (S:=λb=>b=k.L) ae.o).set (p:=⟨k.L,5,none⟩) rfl _).set (p:=⟨k.L,6,none⟩) rfl _).set (p:=⟨k.L,4,none⟩) rfl _;have H:=I.o.ok;exact⟨rfl,I.o.setL A (qB (qp (qp (qp G.o 5 _) 6 _) 4 _) (by rfl)) ⟨rfl,rfl,rfl,rfl,rfl⟩ ⟨H.most,H.row,H.lt,H.sq,H.src⟩,A.mono λb ag=>by rw[ag];exact I.o.muts _ (Or.inl rfl)⟩
end
theorem Iu (m d H sq st:Int) (n:Nat) (ad:m=n) (Y:1<=n) (aa:n<=8) (ag:1<=d) (ah:d<=10) (aC:U16 sq) (aD:U32 H) (w:World):Calls prog 88 #[θ #[ι m,ι d,ω H,φ sq,ω st]] w λe w'=> ∃L,e= .returned (.tuple #[γ L,ι 0])/\zw (λb=>w.heap.size<=b/\b<w'.heap.size) w' L (Vd n d H sq st)/\qa w w':=by
 have aJ:=κ (Pp m n ad Y aa);have aK:=κ (Pq m n ad Y aa);have aL:=κ (Po m n ad Y aa);have aM:=κ (Ka d ag ah);have aO:Hid (KM (Vd n d H sq st)):=κ ⟨⟨ag,ah⟩,⟨Int.le_refl _,(by show 0<=d;omega)⟩,λ_=>(by show 0<d;omega),aC,aD⟩;clear ad Y aa ag ah aC aD
 go_enter func88,ntmps88
 go_wp2_with (first | (go_at_call 146;(go_call aJ.o _ as e w1 ⟨rfl,az,aj⟩;have ap:Hid (qN 13 327 253 w1 (w.heap.size+1+1) (w.heap.size+1) n 0 [] 0 0 0 0 (List.replicate n (Γa:List Value))):=κ (by simpa using az);have au:=κ (qc aj (qj w (.cells #[ι m,ι d,ω H,φ sq,ω st] 199)));have aR:Hid (qa w w1):=κ ((qa.alloc _ _).trans aj);clear aj az;have aT:w1.cell? ⟨w.heap.size,0,none⟩=some (ι m):=qb au.o 0 rfl)) | (go_at_call 147;(go_call aK.o _ as e w2 ⟨rfl,aA,ak⟩;have aq:=κ aA;have av:=κ (qc ak au.o);have ax:Hid (qa w1 w2):=κ ak;clear ak aA;have aT:w2.cell? ⟨w.heap.size,0,none⟩=some (ι m):=qb av.o 0 rfl)) | (go_at_call 148;(go_call aL.o _ as e ae ⟨rfl,aB,am⟩;have ar:=κ aB;have aw:=κ (qc am av.o);have af:Hid (qa w2 ae):=κ am;clear am aB;have c1:ae.cell? ⟨w.heap.size,1,none⟩=some (ι d):=qb aw.o 1 rfl)) | (go_at_call 149;(go_call aM.o _ as e w4 ⟨rfl,an⟩;have aS:Hid (qa ae w4):=κ an;have aP:=κ (qc an aw.o);clear an)))
 obtain⟨I,ab⟩:=ν (w4.alloc (.cells #[ι d,ι 0,false] 151));have ay:Hid (qa w4 I):=κ (by rw[<-ab];exact qa.alloc _ _);have aQ:=κ (qc ay.o aP.o);have aI:Hid (I.heap[w4.heap.size]? =some (.cells #[ι d,ι 0,false] 151 (0,0))):=κ (by rw[<-ab];exact qj w4 _);rw[ab];clear ab;have O:=λ(x:qt I)=>qc x.h aQ.o
 have c2:=λx=>β2 (O x);have c3:=λx=>β3 (O x);have c4:=λx=>β4 (O x);clear O
 have aN: ∀x:qt I,x.w'.rangeAt w4.heap.size 0 [ι d,ι 0,false]:=λx=>xy (qc x.h aI.o)
 refine zC I 15 [(0,false),(1,false),(2,false),(3,false),(4,false),(5,false),(6,false),(7,false),(8,false),(10,false),(9,true),(11,false),(12,true),(13,false),(14,false)] ξ ξ ?_
 refine Qq9 ?_
 refine jh rfl rfl (qk ρ) 151 (.tmp 8) rfl w4.heap.size 0 rfl [ι d,ι 0,false] _ (λw' aU=>by obtain⟨x,rfl⟩:=aU;exact aN x) underlying151 rfl ξ ?_;intro K G;go_simp;refine G _ ?_;clear G K
 (refine Ql ?_;intro K G)
 go_call Zf H sq st _ as e w6 ⟨rfl,aE⟩;have J:Hid (qa I w6):=κ ((qa.drewN _ _).trans aE);clear aE;refine⟨_,rfl,qk J.o,G _ _ ?_⟩;clear G K
 iterate 1 (refine qE rfl rfl (qk J.o) ?_;intro K G;go_big_quiet_op;go_big_quiet_on)
 (refine Ql ?_;intro K G)
 refine⟨qk (J.o.al _),G _ _ ?_⟩;clear G K
 iterate 2 (refine qE rfl rfl (qk (J.o.al _)) ?_;intro K G;go_big_quiet_op;go_big_quiet_on)
 refine qA ?_;go_wp2;refine bodyPost_ret (v:= .tuple #[γ w6.heap.size,ι 0]) (by simp[results,results88,go_sem]) rfl ?_;obtain⟨W7,ac⟩:=ν (w6.alloc (.cells #[δ none 0 0,γ (w.heap.size+1+1),γ (w1.heap.size+1),γ (w2.heap.size+1),false,ι 0,ι 0,ω H,φ sq,ω st,false,ω 0,ω 0,ι d,ι 0,false] 153));have ao:W7.heap[w6.heap.size]? =some (.cells (jQ ⟨w6.heap.size,w.heap.size+1+1,w.heap.size+1,w1.heap.size+1,w1.heap.size,w2.heap.size+1,w2.heap.size⟩ (δ none 0 0) (Vd n d H sq st)) 153 (0,0)):=by rw[<-ac];exact qj w6 _
 have U:qa w6 W7:=by rw[<-ac];exact qa.alloc _ _
 have aV:w6.heap.size<W7.heap.size:=qn ao;rw[ac];clear ac;have N:qa ae w6:=(aS.o.trans ay.o).trans J.o;have aX:=qn ap.o.ring;have aY:=qn aq.o.ring;have z3:=qn ar.o.ring;have aW:=N.size;have aF:=(ap.o.more ((ax.o.trans af.o).trans (N.trans U)));have aG:=(aq.o.more (af.o.trans (N.trans U)));have aH:=(ar.o.more (N.trans U));refine⟨_,rfl,⟨⟨w6.heap.size,w.heap.size+1+1,w.heap.size+1,w1.heap.size+1,w1.heap.size,w2.heap.size+1,w2.heap.size⟩,δ none 0 0,rfl, ?_⟩,((aR.o.trans ax.o).trans af.o).trans (N.trans U)⟩;refine⟨λb ai=>ai.2,λb ai=> ?_,by simp only;omega,ao,⟨_,_,_,_,_,_,_,aF,trivial⟩,⟨_,_,_,_,_,_,_,aG,trivial⟩,⟨_,_,_,_,_,_,_,aH,trivial⟩,je.nil 2 ROu _ W7 0 _,aO.o⟩;rcases ai with e | (e | e) | (e | e) | (e | e)<;>(simp only at e;subst e;constructor<;>omega)
theorem QU {P:Program} {C:World->Prop} {l:List Oper} {T:Nat} {Q:Act->World->Prop} {k:Nat} {o:Oper} {t:Tr} {a:Act} {w:World} (Y:l[k]? =some o) (H:Region.wanted o (yielded l.toArray a.tmps)=true) (J:C w)
  (d:TypeId) (x:Operand) (aa:o.op= .load d x) (b I:Nat) (ac:a.eval x= π (some ⟨b,I,none⟩)) (cs:List Value) (G:TypeDesc) (O: ∀w,C w->w.rangeAt b I cs)
  (ab:P.underlying d=some G) (U:G.isRow=true) (hi:(P.info? d).map (·.size)=some cs.length)
  (h: ∀K:Act->Prop,(∀a,zk P l.toArray T C Q t a w->K a)->K (a.put o.dst (θ cs.toArray))):zk P l.toArray T C Q (.op k false t) a w:=
 qH Y H J λK N=>⟨θ cs.toArray,λw H=>by
  unfold Oper.quietAt execOp;simp only[aa,ac,Instr.loadAt,Instr.sureAddr,Sem.run_bind,Sem.run_pure,Result.andThen_ok,run_loadVar_mid w b I d cs G (O w H) ab U hi]
  exact⟨rfl,rfl⟩,h K N⟩
theorem AH (c t n:Int) (k:Bool) (w:World):Calls prog 198 #[θ #[ι c,ι t],ι n,k] w λe w'=>e= .returned (.tuple #[θ #[ι (xJ c t n k).1,ι t],ι (xJ c t n k).2.1,μ (xJ c t n k).2.2])/\qa w w':=by
 by_cases h1:n=c
 ·have e:xJ c t n k=(c,0,false):=by unfold xJ;rw[if_pos h1]
  rw[e];exact Uo c t n k (by simp[h1]) (by simp[h1]) w
 ·by_cases h2:n=t
  ·cases k with
   | true=>
    have e:xJ c t n true=(n,0,true):=by unfold xJ;rw[if_neg h1,if_pos h2,if_pos rfl]
    rw[e];exact Up c t n true (by simp[h1]) (by simp[h2]) rfl w
   | false=>
    have e:xJ c t n false=(c,5,false):=by unfold xJ;rw[if_neg h1,if_pos h2,if_neg ζ]
    rw[e];exact V9 c t n false (by simp[h1]) (by simp[h1]) (by simp[h2]) rfl w
  ·have e:xJ c t n k=(c,4,false):=by unfold xJ;rw[if_neg h1,if_neg h2]
   rw[e];exact AG c t n k (by simp[h1]) (by simp[h1]) (by simp[h2]) w
section
variable {N:Nat->Prop} {w w':World} {k:LnB} {vo:Value} {s s':LnS}
theorem Y3 (h:LnX N w k vo s) (G:vC s 1=false):Calls prog 137 #[γ k.L] w λe w'=>e= .returned (.tuple #[ι 0,ι 0,false])/\qa w w':=by
 have d:=YA h;rw[G] at d;have d:=κ d;clear G h
 go_enter func137,ntmps137
 go_wp2_with (go_at_call 74;(go_call d.o as e w1 ⟨rfl,H⟩;have I:=κ H;clear H))
 refine bodyPost_ret (v:= .tuple #[ι 0,ι 0,false]) (by simp[results,results137,go_sem]) rfl ?_;exact⟨rfl,I.o⟩
theorem Zn (h:LnX N w k vo s) (be:vC s 1=true) (x:ItS) (T:List ItS) (bQ:s.A=x::T) (ae f:Int) (ao:Bool) (bw:xJ s.cur s.tgt x.layer x.key=(ae,f,ao)) (z:Bool) (cn:(f==0)=z):
  Calls prog 137 #[γ k.L] w λe w'=>e= .returned (.tuple #[ι x.id,ι f,true])/\LnX (xf N w w') w' k vo {s with A:=T,cur:=ae,B:=if z then s.B++[(x,ao)] else s.B}/\qg N w w':=by
 have H:=κ h;have aC:=YA h;rw[be] at aC;have aC:=κ aC;have av:=AH s.cur s.tgt x.layer x.key;rw[bw] at av;have av:=κ av;have cj:s.B.length<s.room:=by
  have:=h.r2.fit.1;have bP:(decide (0<s.A.length)&&decide (¬s.B.length=s.room))=true:=be;simp at bP;omega
 obtain⟨ax,co,aW,bK,aU,aV,bL,bd,aT⟩:=h.r1;rw[bQ] at aT;obtain⟨c,q,rfl,aE,bo⟩:=aT.uncons;have AQ:=κ bo;obtain⟨cq,cp,vp,rfl,⟨⟨os,ai,rfl,_⟩,⟨aj,ke,rfl,_⟩,⟨ak,ah,rfl,_⟩⟩,_,_⟩:=aE.read;unfold itC at aE bd;have bC:=κ aE;have bF:=κ bd;have ad:=κ h.dist;clear h be bw bd aE bo aT
 go_enter func137,ntmps137
 go_wp2_with (first | (go_at_call 74;(go_call aC.o as e w1 ⟨rfl,az⟩;have bH:=κ az;have bh:=κ (qc az H.o.blk);have cu:Hid (w.heap.size<=w1.heap.size):=κ az.size;have bE:=κ (bF.o.more az);clear az;have c1:w1.cell? ⟨k.L,1,none⟩=some (π (some ⟨k.R1,0,none⟩)):=qb bh.o 1 rfl)) | (go_at_call 197;(go_call Nb w1 k.R1 k.A1 s.room ax _ q aW bK aU aV bL bE.o as e w2 ⟨rfl,⟨aX,ag⟩,af⟩;have bk:=κ ag;have A2:Hid (qg (RgB k.R1 k.A1) w w2):=κ ((qg.of_more bH.o).trans af);have bi:Hid (w2.heap[k.L]? =some (.cells (jQ k vo s) 153 (0,0))):=κ (af.blk bh.o (by obtain⟨⟨Y,ac,_⟩,_⟩:=ad.o;rintro(e | e)<;>omega));clear ag af)))
 obtain⟨J,aL⟩:=ν ((w2.alloc (.cells (Γj x os ai aj ke ak ah) 253)));have aw:Hid (qa w2 J):=κ (by rw[<-aL];exact qa.alloc _ _);have aQ:Hid (J.heap[w2.heap.size]? =some (.cells (Γj x os ai aj ke ak ah) 253 (0,0))):=κ (by rw[<-aL];exact qj w2 _);have aO:=κ (qc aw.o bi.o);rw[aL];clear aL
 go_cut [7,8,9] from 21 (λcb cc cd bA=> ∃C,cb= γ C/\cc= ι f/\cd= μ ao/\qa J bA/\bA.heap[C]? =some (.cells #[ι ae,ι s.tgt] 103 (0,0))/\J.heap.size<=C)
 case first=>
  have bG: ∀x:qt J,x.w'.rangeAt k.L 5 [ι s.cur,ι s.tgt]:=λx j v O=>by
   have d:=qc x.h aO.o
   match j,O with
   | 0,O=>exact qb d 5 O
   | 1,O=>exact qb d 6 O
  have ce: ∀y:qt J,y.w'.cell? ⟨w2.heap.size,1,none⟩=some (ι x.layer):=λy=>qb (qc y.h aQ.o) 1 rfl
  have bm: ∀y:qt J,y.w'.cell? ⟨w2.heap.size,2,none⟩=some (μ x.key):=λy=>qb (qc y.h aQ.o) 2 rfl
  refine zB J 17 (.op 0 false (.op 1 false (.op 2 false (.op 3 false (.op 4 false (.op 5 false (.op 6 false (.op 7 false (.br [8,13] λk=>if k=8 then .op 9 false (.op 10 false (.op 11 false (.op 12 false (.op 13 true (.op 14 true (.op 15 false (.op 16 false (.done)))))))) else .op 8 true (.op 9 false (.op 10 false (.op 11 false (.op 12 false (.op 14 true (.op 15 false (.op 16 false (.done))))))))))))))))) ξ ξ ?_
  iterate 3 (refine qH rfl rfl (qk ρ) ?_;intro K G;go_big_quiet_op;go_big_quiet_on)
  refine QU rfl rfl (qk ρ) 103 (.tmp 24) rfl k.L 5 rfl [ι s.cur,ι s.tgt] _ (λw' bf=>by obtain⟨y,rfl⟩:=bf;exact bG y) underlying103 rfl ξ ?_;intro K G;go_simp;refine G _ ?_;clear G K
  repeat (first | (refine jg rfl rfl (qk ρ) ?_) | (refine qH rfl rfl (qk ρ) ?_;intro K G;go_big_quiet_op;go_big_quiet_on))
  refine wP ζ ?_ ?_
  ·(refine qO rfl rfl ?_;intro K G;unfold jn;go_simp)
   go_call av.o _ as e w5 ⟨rfl,ap⟩;have I:Hid (qa J w5):=κ ((qa.drewN _ 1).trans ap);clear ap;refine⟨_,rfl,qk I.o,G _ _ ?_⟩;clear G K
   repeat (first | (refine jg rfl rfl (qk I.o) ?_) | (refine qH rfl rfl (qk I.o) ?_;intro K G;go_big_quiet_op;go_big_quiet_on))
   (refine qO rfl rfl ?_;intro K G;unfold jn;go_simp)
   refine⟨qk (I.o.al _),G _ _ ?_⟩;clear G K
   (refine qO rfl rfl ?_;intro K G;unfold jn;go_simp)
   refine⟨qk (by repeat (first | exact I.o.al _ | refine qa.st ?_ (by have:=I.o.size;simp;omega) _)),G _ _ ?_⟩;clear G K
   repeat (first | (refine jg rfl rfl (qk (by repeat (first | exact I.o.al _ | refine qa.st ?_ (by have:=I.o.size;simp;omega) _))) ?_) | (refine qH rfl rfl (qk (by repeat (first | exact I.o.al _ | refine qa.st ?_ (by have:=I.o.size;simp;omega) _))) ?_;intro K G;go_big_quiet_op;go_big_quiet_on))
   refine zg ?_;go_wp2;go_meet;exact⟨_,rfl,rfl,rfl,I.o.al _,qj w5 _,I.o.size⟩
  ·(refine qO rfl rfl ?_;intro K G;unfold jn;go_simp)
   refine⟨qk ρ,G _ _ ?_⟩;clear G K
   (refine qO rfl rfl ?_;intro K G;unfold jn;go_simp)
   go_call av.o _ as e w5 ⟨rfl,ap⟩;have I:Hid (qa J w5):=κ (((qa.drewN _ 1).al _).trans ap);have au:Hid (w5.heap[J.heap.size]? =some (.cells #[ι 0,ι 0] 103 (0,0))):=κ (qc ap (qC rfl));clear ap;have bM:w5.cell? ⟨J.heap.size,0,none⟩=some (ι 0):=qb au.o 0 rfl;have Y:w5.cell? ⟨J.heap.size,1,none⟩=some (ι 0):=qb au.o 1 rfl;have e0:w5.frozen? ⟨J.heap.size,0,none⟩=false:=qd au.o 0;have aH:w5.frozen? ⟨J.heap.size,1,none⟩=false:=qd au.o 1;refine⟨_,rfl,qk I.o,G _ _ ?_⟩;clear G K
   repeat (first | (refine jg rfl rfl (qk I.o) ?_) | (refine qH rfl rfl (qk I.o) ?_;intro K G;go_big_quiet_op;go_big_quiet_on))
   (refine qO rfl rfl ?_;intro K G;unfold jn;go_simp)
   refine⟨qk ((I.o.st (Nat.le_refl _) _).st (Nat.le_refl _) _),G _ _ ?_⟩;clear G K
   repeat (first | (refine jg rfl rfl (qk ((I.o.st (Nat.le_refl _) _).st (Nat.le_refl _) _)) ?_) | (refine qH rfl rfl (qk ((I.o.st (Nat.le_refl _) _).st (Nat.le_refl _) _)) ?_;intro K G;go_big_quiet_op;go_big_quiet_on))
   refine zg ?_;go_wp2;go_meet;exact⟨_,rfl,rfl,rfl,(I.o.st (Nat.le_refl _) _).st (Nat.le_refl _) _,qB (qp (qp au.o 0 _) 1 _) rfl,Nat.le_refl _⟩
 case rest=>
 obtain⟨C,rfl,rfl,rfl,aN,bu,ck⟩:=hcut;have aD:=κ aN;have bj:=κ bu;have an:=κ (qc aN aO.o);have aS:=κ (qc aN aQ.o);clear aN bu;have cl:k.L<C:=by have:=qn aO.o;omega
 have bM:wc.cell? ⟨C,0,none⟩=some (ι ae):=qb bj.o 0 rfl;have Y:wc.cell? ⟨C,1,none⟩=some (ι s.tgt):=qb bj.o 1 rfl;have c5:wc.cell? ⟨k.L,5,none⟩=some (ι s.cur):=qb an.o 5 rfl;have cf:wc.cell? ⟨k.L,6,none⟩=some (ι s.tgt):=qb an.o 6 rfl;have aI:wc.frozen? ⟨k.L,5,none⟩=false:=qd an.o 5;have ch:wc.frozen? ⟨k.L,6,none⟩=false:=qd an.o 6;have cr:wc.cell? ⟨w2.heap.size,0,none⟩=some (ι x.id):=qb aS.o 0 rfl;have aM: ¬w2.heap.size=k.L:=by have:=qn bi.o;omega
 cases z
 ·go_wp2;refine bodyPost_ret (v:= .tuple #[ι x.id,ι f,true]) (by simp[results,results137,go_sem]) rfl ?_;obtain⟨W6,U⟩:=ν ((wc.setCell ⟨k.L,5,none⟩ (ι ae)).setCell ⟨k.L,6,none⟩ (ι s.tgt));have aA:Hid (qg (λb=>b=k.L∨RgB k.R1 k.A1 b) w W6):=κ (by rw[<-U];exact((((A2.o.mono (S':=λb=>b=k.L∨RgB k.R1 k.A1 b) λb d=>Or.inr d).more (aw.o.trans aD.o)).set (p:=⟨k.L,5,none⟩) (Or.inl rfl) _).set (p:=⟨k.L,6,none⟩) (Or.inl rfl) _));have aB:Hid (W6.heap[k.L]? =some (.cells (jQ k vo {s with A:=T,cur:=ae}) 153 (0,0))):=κ (by rw[<-U];exact qB (qp (qp an.o 5 _) 6 _) rfl);have aR:Hid (W6.heap[w2.heap.size]? =some (.cells (Γj x os ai aj ke ak ah) 253 (0,0))):=κ (by rw[<-U];exact qo (qo aS.o ⟨k.L,5,none⟩ _ aM) ⟨k.L,6,none⟩ _ aM)
  have aP:Hid (qN 13 327 253 W6 k.R1 k.A1 s.room ((ax+1)%s.room) q aW _ aU aV _):=κ (by
   obtain⟨⟨Y,ac,_⟩,_⟩:=ad.o;rw[<-U]
   exact((bk.o.more (aw.o.trans aD.o)).away (S:=λb=>b=k.L) (((qg.refl (λb=>b=k.L) wc).set (p:=⟨k.L,5,none⟩) rfl _).set (p:=⟨k.L,6,none⟩) rfl _) (Ne.symm Y) (Ne.symm ac)))
  rw[U];clear U;have am:qg (λb=>b=k.L∨RgB k.R1 k.A1 b) w W6:=aA.o;obtain⟨⟨Y,ac,aF,aG,aY,aZ⟩,⟨aH,ba,bb,bc,aI⟩,⟨bS,bT,bU,bV⟩,⟨bW,bX,bY⟩,⟨bZ,ca⟩,_⟩:=ad.o;have ab:qg k.muts w W6:=am.mono λb d=>by rcases d with e | e;exact Or.inl e;exact Or.inr (Or.inl e)
  have ar:qg (lnM k vo) w W6:=ab.mono λb d=>Or.inl d
  have O: ∀b,vo.ownBlock=some b->vo.ownBlock=some b∨w.heap.size<=b:=λb d=>Or.inl d
  have aK: ∀b,(λb=>b=k.L∨RgB k.R1 k.A1 b) b->lnE N k vo b:=λb d=>kZ (by rcases d with e | e;exact Or.inl e;exact Or.inr (Or.inl e))
  have aa:=H.o.ok;exact⟨rfl,H.o.make ab.size aB.o ⟨_,_,_,_,_,_,_,aP.o,AQ.o.mono λc y ay=>H.o.held ay ar O⟩ (H.o.r2.step am (by rintro(e | e | e)<;>omega) (by rintro(e | e | e)<;>omega) aK λb d=>Or.inl (xE H.o.own O d)) (H.o.r3.step am (by rintro(e | e | e)<;>omega) (by rintro(e | e | e)<;>omega) aK λb d=>Or.inl (xE H.o.own O d)) (H.o.rows ab) ⟨aa.most,aa.row,aa.lt,aa.sq,aa.src⟩,ab.mono λb d=>H.o.muts b d⟩
 ·go_wp2;obtain⟨W6,U⟩:=ν ((wc.setCell ⟨k.L,5,none⟩ (ι ae)).setCell ⟨k.L,6,none⟩ (ι s.tgt));have aA:Hid (qg (λb=>b=k.L∨RgB k.R1 k.A1 b) w W6):=κ (by rw[<-U];exact((((A2.o.mono (S':=λb=>b=k.L∨RgB k.R1 k.A1 b) λb d=>Or.inr d).more (aw.o.trans aD.o)).set (p:=⟨k.L,5,none⟩) (Or.inl rfl) _).set (p:=⟨k.L,6,none⟩) (Or.inl rfl) _));have aB:Hid (W6.heap[k.L]? =some (.cells (jQ k vo {s with A:=T,cur:=ae,B:=s.B++[(x,ao)]}) 153 (0,0))):=κ (by rw[<-U];exact qB (qp (qp an.o 5 _) 6 _) rfl);have aR:Hid (W6.heap[w2.heap.size]? =some (.cells (Γj x os ai aj ke ak ah) 253 (0,0))):=κ (by rw[<-U];exact qo (qo aS.o ⟨k.L,5,none⟩ _ aM) ⟨k.L,6,none⟩ _ aM)
  have aP:Hid (qN 13 327 253 W6 k.R1 k.A1 s.room ((ax+1)%s.room) q aW _ aU aV _):=κ (by
   obtain⟨⟨Y,ac,_⟩,_⟩:=ad.o;rw[<-U]
   exact((bk.o.more (aw.o.trans aD.o)).away (S:=λb=>b=k.L) (((qg.refl (λb=>b=k.L) wc).set (p:=⟨k.L,5,none⟩) rfl _).set (p:=⟨k.L,6,none⟩) rfl _) (Ne.symm Y) (Ne.symm ac)))
  rw[U];clear U;obtain⟨aJ,bg,bs,aX,bp,bq,bt,ag,af⟩:=H.o.r2;have bB:=κ af;have bR:bg.length<s.room:=by have:=af.len;omega
  have R2:Hid (qN 14 330 255 W6 k.R2 k.A2 s.room aJ bg bs aX bp bq bt):=κ (ag.away aA.o (by obtain⟨⟨Y,ac,aF,aG,aY,aZ⟩,⟨aH,ba,bb,bc,aI⟩,⟨ax,aJ,bN,bO⟩,_⟩:=ad.o;rintro(e | e | e)<;>omega) (by obtain⟨⟨Y,ac,aF,aG,aY,aZ⟩,⟨aH,ba,bb,bc,aI⟩,⟨ax,aJ,bN,bO⟩,_⟩:=ad.o;rintro(e | e | e)<;>omega));have cm:k.R2<w.heap.size:=qn ag.ring;have ci:k.A2<w.heap.size:=qn ag.row;have cv:w.heap.size<=w2.heap.size:=A2.o.size;clear ag af;have bx: ¬RgB k.R2 k.A2 k.L:=by
   obtain⟨⟨Y,ac,aF,aG,_⟩,_⟩:=ad.o;rintro(e | e)<;>omega
  have bz: ¬RgB k.R2 k.A2 w2.heap.size:=by rintro(e | e)<;>omega
  have bm: ∀y:qz (RgB k.R2 k.A2) W6,y.w'.cell? ⟨k.L,2,none⟩=some (π (some ⟨k.R2,0,none⟩)):=λy=>qb (y.h.blk aB.o bx) 2 rfl
  have bl: ∀y:qz (RgB k.R2 k.A2) W6,y.w'.rangeAt w2.heap.size 0 (Γj x os ai aj ke ak ah):=λy=>xy (y.h.blk aR.o bz)
  refine QN (RgB k.R2 k.A2) W6 8 8 [7] ?_
  refine Qs4 ?_
  refine jh rfl rfl (qi σ) 253 (.tmp 5) rfl w2.heap.size 0 rfl (Γj x os ai aj ke ak ah) _ (λw' bf=>by obtain⟨y,rfl⟩:=bf;exact bl y) underlying253 rfl ξ ?_;intro K G;go_simp;refine G _ ?_;clear G K
  refine Qs2 ?_
  (refine Ql ?_;intro K G)
  go_call UH _ k.R2 k.A2 s.room aJ bg bs aX bp bq bt (R2.o.more (qa.drewN W6 1)) bR (Γk x os ai aj ke ak ah ao) ⟨rfl,by simp[Value.oneCell']⟩ as e w8 ⟨rfl,⟨cg,bv⟩,bn⟩;have bI:=κ bv;have aq:Hid (qg (RgB k.R2 k.A2) W6 w8):=κ (((qg.refl _ W6).drewN 1).trans bn);clear bv bn;refine⟨_,rfl,qi aq.o,G _ _ ?_⟩;clear G K bm bl;refine qA ?_;have bD:=κ (aq.o.blk aB.o bx);have bJ:=κ (aq.o.blk aR.o bz);have ct:w8.cell? ⟨w2.heap.size,0,none⟩=some (ι x.id):=qb bJ.o 0 rfl;go_wp2;refine bodyPost_ret (v:= .tuple #[ι x.id,ι f,true]) (by simp[results,results137,go_sem]) rfl ?_;have am:qg (λb=>b=k.L∨RgB k.R1 k.A1 b∨RgB k.R2 k.A2 b) w w8:=(aA.o.mono λb d=>by rcases d with e | e;exact Or.inl e;exact Or.inr (Or.inl e)).trans (aq.o.mono λb d=>Or.inr (Or.inr d));obtain⟨⟨Y,ac,aF,aG,aY,aZ⟩,⟨aH,ba,bb,bc,aI⟩,⟨bS,bT,bU,bV⟩,⟨bW,bX,bY⟩,⟨bZ,ca⟩,_⟩:=ad.o;have ab:qg k.muts w w8:=am.mono λb d=>by rcases d with e | e | e;exact Or.inl e;exact Or.inr (Or.inl e);exact Or.inr (Or.inr (Or.inl e))
  have ar:qg (lnM k vo) w w8:=ab.mono λb d=>Or.inl d
  have O: ∀b,vo.ownBlock=some b->vo.ownBlock=some b∨w.heap.size<=b:=λb d=>Or.inl d
  have aK: ∀b,(λb=>b=k.L∨RgB k.R1 k.A1 b∨RgB k.R2 k.A2 b) b->lnE N k vo b:=λb d=>kZ (by rcases d with e | e | e;exact Or.inl e;exact Or.inr (Or.inl e);exact Or.inr (Or.inr (Or.inl e)))
  have aa:=H.o.ok;exact⟨rfl,H.o.make ab.size bD.o ⟨_,_,_,_,_,_,_,aP.o.away aq.o (by rintro(e | e)<;>omega) (by rintro(e | e)<;>omega),AQ.o.mono λc y ay=>H.o.held ay ar O⟩ ⟨_,_,_,_,_,_,_,bI.o,(bB.o.mono λc y ay=>H.o.held ay ar O).snoc (H.o.held (jw.chosen ao bC.o) ar O)⟩ (H.o.r3.step am (by rintro(e | (e | e) | (e | e))<;>omega) (by rintro(e | (e | e) | (e | e))<;>omega) aK λb d=>Or.inl (xE H.o.own O d)) (H.o.rows ab) ⟨aa.most,aa.row,aa.lt,aa.sq,aa.src⟩,ab.mono λb d=>H.o.muts b d⟩
theorem De (h:LnX N w k vo s):Calls prog 137 #[γ k.L] w λe w'=>e= .returned (.tuple #[ι (jf s).2.1,ι (jf s).2.2.1,μ (jf s).2.2.2])/\LnX (xf N w w') w' k vo (jf s).1/\qg N w w':=by
 cases hm:vC s 1 with
 | false=>
  have e:jf s=(s,0,0,false):=by unfold jf;rw[if_pos hm]
  rw[e];refine(Y3 h hm).mono ?_;rintro e w' ⟨rfl,m⟩;exact⟨rfl,h.grow m,qg.of_more m⟩
 | true=>
  cases hA:s.A with
  | nil=>
   have:(decide (0<s.A.length)&&decide (¬s.B.length=s.room))=true:=hm;rw[hA] at this;simp at this
  | cons x T=>
   have e:jf s=({s with A:=T,cur:=(xJ s.cur s.tgt x.layer x.key).1,B:=if (xJ s.cur s.tgt x.layer x.key).2.1=0 then s.B++[(x,(xJ s.cur s.tgt x.layer x.key).2.2)] else s.B},x.id,(xJ s.cur s.tgt x.layer x.key).2.1,true):=by
    unfold jf;rw[if_neg (by rw[hm];decide),hA]
   rw[e];rcases ht:xJ s.cur s.tgt x.layer x.key with ⟨d,f,G⟩
   simp only;have:=Zn h hm x T hA d f G ht (f==0) rfl
   simpa using this
end
theorem Jz (n s:Int):Byt (qy n s):=by
 unfold qy;split
 ·exact JF _ _
 ·exact xh
theorem Ix (l:List Int):Byt (ssB l):=by
 induction l with
 | nil=>exact xh
 | cons x l ih=>exact zZ (Jz _ _) ih
theorem EM {p:Pk} (h:uf p):Byt (DB p):=by
 unfold DB CV Hz;refine zZ (zZ (zZ (zZ (zZ (zZ ?_ ?_) ?_) ?_) ?_) (Ix _)) ?_
 all_goals try exact Jz _ _
 split
 ·exact zZ (zZ (Jz _ _) (Jz _ _)) h.ex
 ·exact xh
theorem Iy {p:Pk} (h:uf p):Byt (pkB p):=zZ (EM h) h.pl
theorem qg.setNew {S:Nat->Prop} {a b:World} (h:qg S a b) {p:Addr} (H:a.heap.size<=p.block) (v:Value):qg S a (b.setCell p v):=
 ⟨h.os,h.tape,h.output,by simpa [World.setCell] using h.size,λk d G=>by rw[Below.heap_setCell _ _ _ _ (λe=>by omega)];exact h.block k d G⟩
theorem Vg {w:World} {base e size n b:Nat} {v:Value} {xs:List Value} (h:w.ownsRow base e size v n xs) (d:v.ownBlock=some b):b<w.heap.size:=by
 rcases h.2 with ⟨rfl,_⟩ | ⟨g,cap,cur,rfl,_,G,_⟩
 ·cases d
 ·obtain rfl:g=b:=by injection d
  exact lt_of_block G
def vE (room:Nat) (q:List (List Value)) (x:List Value):List (List Value):=if q.length<room then q++[x] else q.tail++[x]
theorem Pc (ae:World) (R A room f:Nat) (q:List (List Value)) (N I J H:Int) (css:List (List Value)) (ab:qN 2 332 56 ae R A room f q N I J H css)
  (ad: ∀c∈q,∃i G n d,c=[ι i,δ G n d]) (x:List Value) (ac:x.length=2/\ ∀u∈x,u.oneCell'=true):
  ∃old G n d,(old=if q.length<room then 0 else (q.head?.map idN).getD 0)/\
  ∀w,qN 2 332 56 w R A room f q N I J H css->Calls prog 202 #[γ R,θ x.toArray] w λe w'=>e= .returned (.tuple #[θ #[ι old,δ G n d],(decide (¬q.length<room)),ι 0])/\
   (∃f' O aa css',qN 2 332 56 w' R A room f' (vE room q x) O I aa H css')/\qg (RgB R A) w w':=by
 by_cases hq:q.length<room
 ·refine⟨0,none,0,0,by rw[if_pos hq],λw h=> ?_⟩;have U:decide (¬q.length<room)=false:=by simp[hq]
  have Y:vE room q x=q++[x]:=by unfold vE;rw[if_pos hq]
  rw[U,Y];refine(UD w R A room f q N I J H css h hq x ac).mono ?_;rintro e w' ⟨rfl,⟨O,g⟩,a⟩;exact⟨rfl,⟨_,_,_,_,g⟩,a⟩
 ·have af:=ab.fits;have ag:=ab.pos;cases q with
  | nil=>simp at hq;omega
  | cons c T=>
   obtain⟨i,G,n,d,rfl⟩:=ad c η;refine⟨i,G,n,d,by rw[if_neg hq];rfl,λw h=> ?_⟩;have U:decide (¬([ι i,δ G n d]::T).length<room)=true:=by simpa using hq
   have Y:vE room ([ι i,δ G n d]::T) x=T++[x]:=by unfold vE;rw[if_neg hq];rfl
   rw[U,Y];refine(UE w R A room f [ι i,δ G n d] T N I J H css h τ x ac).mono ?_;rintro e w' ⟨rfl,⟨O,aa,g⟩,a⟩;exact⟨rfl,⟨_,_,_,_,g⟩,a⟩
theorem zb.tl {α β:Type} {p:α->β->Prop} {l:List α} {m:List β} (h:zb p l m):zb p l.tail m.tail:=by
 cases l with
 | nil=>cases m with
  | nil=>exact trivial
  | cons b m=>exact h.elim
 | cons a l=>cases m with
  | nil=>exact h.elim
  | cons b m=>exact h.2
theorem DY {α:Type} {R:qL α} {D:Nat->Prop} {w:World} {room:Nat} {q:List (List Value)} {l:List α} {c:List Value} {y:α} (a:zb (jw R D w) q l) (h:jw R D w c y):
  zb (jw R D w) (vE room q c) (if l.length<room then l++[y] else l.tail++[y]):=by
 unfold vE;rw[a.len];split
 ·exact a.snoc h
 ·exact a.tl.snoc h
section
variable {N:Nat->Prop} {w w':World} {k:LnB} {vo vo':Value} {s s':LnS}
theorem LnX.fresh (h:LnX N w k vo s) {G:IntKind} {v:Value} {l:List Int} (O:SlI G w' v l) (J: ∀b,v.ownBlock=some b->w.heap.size<=b/\b<w'.heap.size) (U: ∀b,vo'.ownBlock=some b->vo.ownBlock=some b) {w'':World} (a:qg (lnE (xf N w w') k vo') w' w''):SlI G w'' v l:=by
 refine O.off (λb e d=> ?_) a;obtain⟨H,I⟩:=J b e;rcases d with d | d
 ·have:=h.own b (h.muts b (d (Or.inr ⟨H,I⟩)));omega
 ·have:=h.own b (h.vob (U b d)).1;omega
theorem UJ {D:Nat->Prop} {q:List (List Value)} {l:List (Int×List Int)} (a:zb (jw ROu D w) q l): ∀c∈q,∃i G n d,c=[ι i,δ G n d]:=λc H=>by
 obtain⟨o,_,I⟩:=a.mem c H;obtain⟨v,rfl,⟨G,d,rfl,_⟩,_⟩:=I.read;exact⟨_,_,_,_,rfl⟩
theorem Pg {D:Nat->Prop} {q:List (List Value)} {l:List (Int×List Int)} (a:zb (jw ROu D w) q l):(q.head?.map idN).getD 0=(l.head?.map (·.1)).getD 0:=by
 cases l with
 | nil=>rw[a.nil_r];rfl
 | cons o l=>
  obtain⟨c,q',rfl,d,_⟩:=a.uncons;obtain⟨v,rfl,_⟩:=d.read;rfl
end
end Go.Proofs.YtlmllmonabafjaaGreatDoor
