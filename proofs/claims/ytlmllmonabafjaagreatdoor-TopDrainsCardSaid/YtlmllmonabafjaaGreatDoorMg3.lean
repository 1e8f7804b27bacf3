/- Contracts and plain laws. -/
import Derived.Test.YtlmllmonabafjaaGreatDoorMg2
namespace Go.Proofs.YtlmllmonabafjaaGreatDoor
open Go.Value renaming bool->μ,slice->δ,pointer->π,agg->θ
open Go.IntKind renaming i64->ι,u8->υ,u16->φ,u32->ω,i32->χ,u64->ψ
open _root_.Go.Proofs.Tryz
set_option linter.unusedSimpArgs false
set_option maxHeartbeats 8000000
set_option linter.unusedVariables false
open Go.RowKit
set_option maxRecDepth 100000
theorem Ob {w:World} {R A room first:Nat} {q:List (List Value)} {H I d G:Int} {css:List (List Value)} (h:qO 2 332 56 w R A room first q H I d G css):
  Calls prog 115 #[γ R] w λe w'=>e= .returned (ι q.length)/\w'=w:=by
 have J:w.cell? ⟨R,2,none⟩=some (ι q.length):=qb h.ring 2 rfl;clear h
 go_enter func115,ntmps115
 go_wp2;go_ret;exact⟨rfl,rfl⟩
section
open _root_.Go.Proofs.Tryz renaming func258->Ξa,ntmps258->Ξb
theorem MY {w:World} {R A room first:Nat} {q:List (List Value)} {H I d G:Int} {css:List (List Value)} (h:qO 2 332 56 w R A room first q H I d G css):
  Calls prog 258 #[γ R] w λe w'=>e= .returned (μ (decide (q.length=room)))/\ ∃k,w'=w.drewN k:=Ψ3
end
theorem mkO (n:Nat) (N:1<=n) (O:n<=8) (w:World):
  (Instr.makeSlice 53 (ι (n:Int)) (ι (n:Int))).run prog w= .ok (δ (some ⟨w.heap.size,0,none⟩) n n) (w.alloc (.cells (List.replicate n (Γs:List Value)).flatten.toArray 56)):=by
 obtain⟨J,hi,G,H,I⟩:=info_parts (P:=prog) (e:=56) (z:= Γs) (size:=2) (bytes:=32) ξ;have d:=run_make (P:=prog) w 53 56 J (Γs) underlying53 hi G .i64 .i64 n n τ τ (by rw[I];omega) τ;rw[d];simp only[Int.toNat_natCast,H];rw[YA _ 2 n rfl ζ];rfl
theorem PG (m:Int) (n:Nat) (I:m=n) (d:1<=n) (G:n<=8) (w:World):
  Calls prog 148 #[ι m] w λe w'=>e= .returned (.tuple #[γ (w.heap.size+1),ι 0])/\qO 2 332 56 w' (w.heap.size+1) w.heap.size n 0 [] 0 0 0 0 (List.replicate n (Γs:List Value))/\qa w w':=by
 subst I;have J:1<=(n:Int):=by omega
 go_enter func148,ntmps148
 have N:=mkO n d G;go_wp2;refine bodyPost_ret (v:= .tuple #[γ (w.heap.size+1),ι 0]) (by simp[results,results148,go_sem]) rfl ?_;refine⟨rfl, ?_,ρ⟩;exact⟨qB η,qq (qA (qk _ _) rfl) _,τ,η,λc H=>by rw[List.eq_of_mem_replicate H];exact zokO,⟨d,G⟩,τ,η,λi hi=>by simp at hi⟩
section
open _root_.Go.Proofs.Tryz renaming func175->Ξb,ntmps175->Ξc,results175->Ξg,underlying56->Ξh
open _root_.Go.Proofs.YtlmllmonabafjaaGreatDoor renaming Ν2->Ξa,D8->Ξd,Γs->Ξe,Ν56->Ξf
theorem NU (w:World) (R A room first:Nat) (c:List Value) (T:List (List Value)) (I O G H:Int) (css:List (List Value)) (h:qO 2 332 56 w R A room first (c::T) I O G H css):
  Calls prog 175 #[γ R] w λe w'=>e= .returned (.tuple #[θ c.toArray,true])/\(∃co',qO 2 332 56 w' R A room ((first+1)%room) T I co' G H (css.set first Γs))/\qg (RgB R A) w w':=Ψ4
end
section
open _root_.Go.Proofs.Tryz renaming func202->Ξc,ntmps202->Ξd,underlying56->Ξj,results202->Ξk
open _root_.Go.Proofs.YtlmllmonabafjaaGreatDoor renaming Ν56->Ξa,Γs->Ξb,MY->Ξe,Ν2->Ξf,Ν332->Ξg,zokO->Ξh,D8->Ξi
theorem ZM (w:World) (R A room first:Nat) (O:List (List Value)) (aa aj Y ai:Int) (css:List (List Value)) (h:qO 2 332 56 w R A room first O aa aj Y ai css) (x:List Value) (ad:x.length=2/\ ∀u∈x,u.oneCell'=true) (ab:Bool) (aP:decide (O.length=room)=ab):
  Calls prog 202 #[γ R,θ x.toArray] w λe w'=> ∃(G:List Value) (f:Nat) (q:List (List Value)) (H:Int) (cs:List (List Value)),e= .returned (.tuple #[θ G.toArray,ab,ι 0])/\(∃ci',qO 2 332 56 w' R A room f (q++[x]) ci' aj H ai (cs.set ((f+q.length)%room) x))/\qg (RgB R A) w w'/\WI Γs first room O css Y ab G f q H cs:=Ψ5
end
theorem UL (w:World) (R A room first:Nat) (q:List (List Value)) (I H d G:Int) (css:List (List Value)) (h:qO 2 332 56 w R A room first q I H d G css) (ad:q.length<room) (x:List Value) (ac:x.length=2/\ ∀u∈x,u.oneCell'=true):
  Calls prog 202 #[γ R,θ x.toArray] w λe w'=>e= .returned (.tuple #[Γs,μ false,ι 0])/\(∃ci',qO 2 332 56 w' R A room first (q++[x]) ci' H d G (css.set ((first+q.length)%room) x))/\qg (RgB R A) w w':=
 (ZM w R A room first q I H d G css h x ac false (decide_eq_false τ)).mono λe w' ⟨_,_,_,_,_,aa,ab,a,J,N,O,U,Y⟩=>by
  subst J N O U Y;exact⟨aa,ab,a⟩
theorem UM (w:World) (R A room first:Nat) (c:List Value) (T:List (List Value)) (O I N G:Int) (css:List (List Value)) (h:qO 2 332 56 w R A room first (c::T) O I N G css) (ab:(c::T).length=room) (x:List Value) (ad:x.length=2/\ ∀u∈x,u.oneCell'=true):
  Calls prog 202 #[γ R,θ x.toArray] w λe w'=>e= .returned (.tuple #[θ c.toArray,true,ι 0])/\(∃H d,qO 2 332 56 w' R A room ((first+1)%room) (T++[x]) H I d G ((css.set first Γs).set (((first+1)%room+T.length)%room) x))/\qg (RgB R A) w w':=
 (ZM w R A room first (c::T) O I N G css h x ad true (decide_eq_true ab)).mono λe w' ⟨ae,f,q,d,cs,aa,⟨H,ac⟩,a,J,U,Y⟩=>by
  injection J with J h4
  subst J U Y h4;exact⟨aa,⟨H,d,ac⟩,a⟩
theorem Aw (c:List Value) (h:c.length=2): ∃a0 a1,c=[a0,a1]:=by
 match c,h with
 | [a0,a1],_=>exact⟨a0,a1,rfl⟩
theorem YN {S:Nat->Prop} {w w':World} {base e n m:Nat} {v:Value} {xs:List Value} (h:w.ownsRow base e n v m xs) (a:qg S w w') (H: ∀b,base<=b-> ¬S b):w'.ownsRow base e n v m xs:=by
 obtain⟨d,G⟩:=h;refine⟨d, ?_⟩;rcases G with h | ⟨b,cap,cur,e1,hb,hg,rest⟩
 ·exact Or.inl h
 ·exact Or.inr ⟨b,cap,cur,e1,hb,a.blk hg (H b hb),rest⟩
theorem ur {w:World} {base e size n b:Nat} {v:Value} {xs:List Value} (h:w.ownsRow base e size v n xs) (d:v.ownBlock=some b):base<=b:=by
 rcases h.2 with ⟨rfl,_⟩ | ⟨g,cap,cur,rfl,G,_⟩
 ·cases d
 ·obtain rfl:g=b:=by injection d
  exact G
theorem VQ {w:World} {base e size n:Nat} {v:Value} {xs:List Value} (h:w.ownsRow base e size v n xs): ∃oa cap,v= δ oa n cap:=by
 rcases h.2 with ⟨rfl,d⟩ | ⟨g,cap,cur,rfl,_⟩
 ·exact⟨none,0,by rw[d]⟩
 ·exact⟨_,cap,rfl⟩
theorem Lo (w:World) (R A room first:Nat) (q:List (List Value)) (J N H I:Int) (css:List (List Value)) (h:qO 2 332 56 w R A room first q J N H I css):
  Calls prog 186 #[γ R] w λe w'=> ∃v,e= .returned v/\w'.ownsRow w.heap.size 56 2 v q.length q.flatten/\(∃first' cg' css',qO 2 332 56 w' R A room first' [] J N H cg' css')/\qg (RgB R A) w w':=by
 obtain⟨aH,aI,aJ,aK,aL⟩:=info_parts (P:=prog) (e:=56) (z:= Γs) (size:=2) (bytes:=32) ξ;have ar:=κ h;have aP:R<w.heap.size:=ql h.ring;have aO:A<w.heap.size:=ql h.row;have aV:w.cell? ⟨R,2,none⟩=some (ι q.length):=qb h.ring 2 rfl;have aT:(q.length:Int)<=8:=by have:=h.fits;have:=h.pos.2;omega
 have az:=κ h.qall;clear h
 go_enter func186,ntmps186
 go_wp2
 go_loopw [3,8] (λu af wr=> ∃(j f:Nat) (cs:List (List Value)),j<=q.length/\af= ι j/\(∃ao an aj,u= δ ao an aj)/\wr.ownsRow w.heap.size 56 2 u j (q.take j).flatten/\qO 2 332 56 wr R A room f (q.drop j) J N H I cs/\qg (RgB R A) w wr) (λ_ af _=>q.length-(intOf af).toNat)
 case atStart=>exact⟨0,first,css,τ,rfl,⟨_,_,_,rfl⟩,World.ownsRow_nil w _ _ _,ar.o,qg.refl _ _⟩
 case round=>
  obtain⟨j,f,cs,aR,rfl,⟨ao,an,aj,rfl⟩,d,am,al⟩:=hrel;have ag:=κ d;have G:=κ am;have aa:=κ al;clear d am al;by_cases hlt:j<q.length
  ·have ac:q.drop j=q[j]::q.drop (j+1):=List.drop_eq_getElem_cons hlt;have ae:q.take (j+1)=q.take j++[q[j]]:=by rw[List.take_add_one,List.getElem?_eq_getElem hlt];rfl
   have Y:=az.o q[j] (List.getElem_mem hlt);have aS:(j:Int)<(q.length:Int):=by omega
   obtain⟨c,aB⟩: ∃c,Hid (c=q[j]):=⟨_,κ rfl⟩;rw[<-aB.o] at ac ae Y;have aw:=κ (ac▸G.o);have ax:=κ ae;have aQ:c.toArray.size=2:=by simpa using Y.1
   clear ac ae G;obtain⟨a0,U,rfl⟩:=Aw c Y.1
   go_wp2_with (first | (go_at_call 232;(go_call D8 wr R A room f [a0,U] (q.drop (j+1)) J N H I cs aw.o as e w5 ⟨rfl,ak,a5⟩;have au:=κ ak;have ap:=κ a5;have O:=κ (YN ag.o a5 (λb ab e=>by rcases e with e | e<;>omega));have aA:Hid (w.heap.size<=w5.heap.size):=κ (Nat.le_trans aa.o.size a5.size);clear ak a5)) | (at_builtin;refine wpList_append_own_at _ rfl (.tmp 10) (.tmp 13) 53 rfl w.heap.size 56 aH (Γs) 2 32 underlying53 aI aJ aK aL rfl ζ _ j (q.take j).flatten rfl (YN O.o (qg.of_more (qa.alloc _ _)) (λb _ e=>e)) ⟨w5.heap.size,0,none⟩ 1 1 [a0,U] rfl rfl (λi u aE=>by have:=xw (cs:=[a0,U]) (t:=56) (qk w5 (.cells #[a0,U] 56)) i u aE;rw[Addr.add_mid];exact this) Y.2 (by unfold maxLen;omega) τ (by have:=aA.o;simp;omega) ?_;intro aX w6 d ad aC aF;have ay:=κ d;have aq:Hid (qg (RgB R A) w w6):=κ (((aa.o.trans ap.o).alc _).grown ad (λb ab=>ur O.o ab));have av:Hid (qO 2 332 56 w6 R A room ((f+1)%room) (q.drop (j+1)) J N H I (cs.set f Γs)):=κ ((au.o.more (qa.alloc _ _)).away (qg.of_grown ad) (λe=>by have:=ur O.o e;omega) (λe=>by have:=ur O.o e;omega));obtain⟨aU,aM,rfl⟩:=VQ d;clear d ad aC aF))
   go_roundw
   case rel=>exact⟨j+1,(f+1)%room,_,τ,by go_num,⟨_,_,_,rfl⟩,by rw[ax.o,List.flatten_append];simpa using ay.o,av.o,aq.o⟩
   case measure=>simp[intOf];omega
  ·obtain rfl:j=q.length:=by omega
   have aW:wr.cell? ⟨R,7,none⟩=some (ι I):=qb G.o.ring 7 rfl;have aN:wr.frozen? ⟨R,7,none⟩=false:=qd G.o.ring 7;go_wp2;go_ret;have aG:q.drop q.length=[]:=by simp
   have aD:q.take q.length=q:=by simp
   have ai:=G.o;have ah:=ag.o;rw[aG] at ai;rw[aD] at ah;exact⟨_,rfl,YN ah ((qg.refl (λb=>b=R) _).set rfl _) (λb ab e=>by omega),⟨_,_,_,ai.drained _⟩,aa.o.set (Or.inl rfl) _⟩
theorem FU (i:Int) (c:List Value) (d:c.length=1) (w:World):Calls prog 187 #[θ (ι i::c).toArray] w λe w'=>e= .returned (ι i)/\qa w w':=by
 obtain⟨a0,G,h⟩:=Aw (ι i::c) (by simp[d]);obtain⟨rfl,rfl⟩:a0= ι i/\c=[G]:=by
  injection h with h1 h2
  exact⟨h1.symm,h2⟩
 clear h d
 go_enter func187,ntmps187
 go_wp2;go_ret;exact⟨rfl,ρ⟩
section
open _root_.Go.Proofs.Tryz renaming func185->Ξa,ntmps185->Ξb,underlying56->Ξf
open _root_.Go.Proofs.YtlmllmonabafjaaGreatDoor renaming FU->Ξc,Ν2->Ξd,Ν56->Ξe,Γs->Ξg
theorem Of (w:World) (v:Value) (q:List (List Value)) (base:Nat) (row:w.ownsRow base 56 2 v q.length q.flatten) (aa: ∀c∈q,∃i r,c= ι i::r/\r.length=1) (ai: ∀c∈q,∀u∈c,u.oneCell'=true) (aN:q.length<=8):
  Calls prog 185 #[v,.func (.func 187) #[] #[]] w λe w'=>(∃v',e= .returned v'/\w'.ownsRow w.heap.size 3 1 v' (q.map idN).length ((q.map idN).map (Value.int .i64)))/\qa w w':=Ψ6
end
theorem Mq (w:World):(zeroValue 255).run prog w= .ok (Γb) w:=by kernel_rfl
theorem zsC:(Builtin.zeroCells (Γb:Value).cells 1).toList=Γb:=by kernel_rfl
theorem zokC:(Γb:List Value).length=14/\ ∀u∈(Γb:List Value),u.oneCell'=true:=⟨rfl,by simp[Value.oneCell']⟩
section
open _root_.Go.Proofs.Tryz renaming func239->Ξb,ntmps239->Ξc,underlying255->Ξg,underlying328->Ξi,results239->Ξm
open _root_.Go.Proofs.YtlmllmonabafjaaGreatDoor renaming Ν14->Ξa,Γb->Ξd,Ν255->Ξe,Ν330->Ξf,Ν328->Ξh,Mq->Ξj,zsC->Ξk,zokC->Ξl
theorem Hy (w:World) (R A room first:Nat) (c:List Value) (T:List (List Value)) (ae af ac ad:Int) (css:List (List Value)) (h:qO 14 330 255 w R A room first (c::T) ae af ac ad css):
  Calls prog 239 #[γ R] w λe w'=>e= .returned (θ c.toArray)/\qO 14 330 255 w' R A room ((first+1)%room) T ae af ac ad (css.set first Γb)/\qg (RgB R A) w w':=Ψ2
end
theorem Od {w:World} {R A room first:Nat} {q:List (List Value)} {H I d G:Int} {css:List (List Value)} (h:qO 14 330 255 w R A room first q H I d G css):
  Calls prog 114 #[γ R] w λe w'=>e= .returned (ι q.length)/\w'=w:=by
 have J:w.cell? ⟨R,2,none⟩=some (ι q.length):=qb h.ring 2 rfl;clear h
 go_enter func114,ntmps114
 go_wp2;go_ret;exact⟨rfl,rfl⟩
section
open _root_.Go.Proofs.Tryz renaming func120->Ξa,ntmps120->Ξb
theorem Id {w:World} {R A room first:Nat} {q:List (List Value)} {H I d G:Int} {css:List (List Value)} (h:qO 14 330 255 w R A room first q H I d G css):
  Calls prog 120 #[γ R] w λe w'=>e= .returned (μ (decide (q.length=room)))/\ ∃k,w'=w.drewN k:=Ψ3
end
theorem mkC (n:Nat) (N:1<=n) (O:n<=8) (w:World):
  (Instr.makeSlice 328 (ι (n:Int)) (ι (n:Int))).run prog w= .ok (δ (some ⟨w.heap.size,0,none⟩) n n) (w.alloc (.cells (List.replicate n (Γb:List Value)).flatten.toArray 255)):=by
 obtain⟨J,hi,G,H,I⟩:=info_parts (P:=prog) (e:=255) (z:= Γb) (size:=14) (bytes:=128) ξ;have d:=run_make (P:=prog) w 328 255 J (Γb) underlying328 hi G .i64 .i64 n n τ τ (by rw[I];omega) τ;rw[d];simp only[Int.toNat_natCast,H];rw[YA _ 14 n rfl ζ];rfl
theorem PI (m:Int) (n:Nat) (I:m=n) (d:1<=n) (G:n<=8) (w:World):
  Calls prog 147 #[ι m] w λe w'=>e= .returned (.tuple #[γ (w.heap.size+1),ι 0])/\qO 14 330 255 w' (w.heap.size+1) w.heap.size n 0 [] 0 0 0 0 (List.replicate n (Γb:List Value))/\qa w w':=by
 subst I;have J:1<=(n:Int):=by omega
 go_enter func147,ntmps147
 have N:=mkC n d G;go_wp2;refine bodyPost_ret (v:= .tuple #[γ (w.heap.size+1),ι 0]) (by simp[results,results147,go_sem]) rfl ?_;refine⟨rfl, ?_,ρ⟩;exact⟨qB η,qq (qA (qk _ _) rfl) _,τ,η,λc H=>by rw[List.eq_of_mem_replicate H];exact zokC,⟨d,G⟩,τ,η,λi hi=>by simp at hi⟩
section
open _root_.Go.Proofs.Tryz renaming func200->Ξb,ntmps200->Ξc,results200->Ξg,underlying255->Ξh
open _root_.Go.Proofs.YtlmllmonabafjaaGreatDoor renaming Ν14->Ξa,Hy->Ξd,Γb->Ξe,Ν255->Ξf
theorem NW (w:World) (R A room first:Nat) (c:List Value) (T:List (List Value)) (I O G H:Int) (css:List (List Value)) (h:qO 14 330 255 w R A room first (c::T) I O G H css):
  Calls prog 200 #[γ R] w λe w'=>e= .returned (.tuple #[θ c.toArray,true])/\(∃co',qO 14 330 255 w' R A room ((first+1)%room) T I co' G H (css.set first Γb))/\qg (RgB R A) w w':=Ψ4
end
theorem UP (w:World) (R A room first:Nat) (q:List (List Value)) (U ae ac ad:Int) (css:List (List Value)) (h:qO 14 330 255 w R A room first q U ae ac ad css) (aG:q.length<room) (x:List Value) (N:x.length=14/\ ∀u∈x,u.oneCell'=true):
  Calls prog 199 #[γ R,θ x.toArray] w λe w'=>e= .returned (.tuple #[Γb,μ false,ι 0])/\(∃ci',qO 14 330 255 w' R A room first (q++[x]) ci' ae ac ad (css.set ((first+q.length)%room) x))/\qg (RgB R A) w w':=by
 have ao:=κ h;have aM:R<w.heap.size:=ql h.ring;have aL:A<w.heap.size:=ql h.row;have aU:(((w.alloc (.cells x.toArray 255)).alloc (.cells Γb 255)).alloc (.cells Γb 255)).cell? ⟨R,3,none⟩=some (μ false):=qb (qq (qq (qq h.ring _) _) _) 3 rfl;have aF:decide (q.length=room)=false:=by simp;omega
 clear h
 go_enter func199,ntmps199
 go_wp2_with (first | (go_at_call 120;((with_reducible refine(Id (ao.o.more (((qa.refl w).al _).al _ |>.al _))).mono ?_);rintro e ab ⟨rfl,aS,Y⟩;rw[aF];have ag:Hid (qa w ab):=κ (by rw[Y];exact(((qa.refl w).al _).al _ |>.al _).dr _);have ar:Hid (ab.heap[w.heap.size]? =some (.cells x.toArray 255 (0,0))):=κ (by rw[Y];exact qn (qq (qq (qk _ _) _) _) _);have ai:Hid (ab.heap[w.heap.size+1]? =some (.cells Γb 255 (0,0))):=κ (by rw[Y];exact qn (qq (qB η) _) _);have am:Hid (ab.heap[w.heap.size+2]? =some (.cells Γb 255 (0,0))):=κ (by rw[Y];exact qn (qB η) _);clear Y)))
 obtain⟨G,H⟩: ∃G,G=ab:=⟨_,rfl⟩;have d:Hid (qO 14 330 255 G R A room first q U ae ac ad css):=κ (by rw[H];exact ao.o.more ag.o);have ah:Hid (qg (RgB R A) w G):=κ (by rw[H];exact qg.of_more ag.o);have au:Hid (G.heap[w.heap.size]? =some (.cells x.toArray 255 (0,0))):=κ (by rw[H];exact ar.o);have aj:Hid (G.heap[w.heap.size+1]? =some (.cells Γb 255 (0,0))):=κ (by rw[H];exact ai.o);have an:Hid (G.heap[w.heap.size+2]? =some (.cells Γb 255 (0,0))):=κ (by rw[H];exact am.o);have aH:q.length<room:=aG;rw[<-H];clear H ag ar ai am;obtain⟨f,aq⟩: ∃f,Hid (f=first):=⟨_,κ rfl⟩;obtain⟨cs,ap⟩: ∃cs,Hid (cs=css):=⟨_,κ rfl⟩;rw[<-aq.o,<-ap.o] at d;have az: ∀x:qp G,x.w'.cell? ⟨R,0,none⟩=some (δ (some ⟨A,0,none⟩) room room):=λx=>x.cell (ql d.o.ring) (qb d.o.ring 0 rfl)
 have aA: ∀x:qp G,x.w'.cell? ⟨R,1,none⟩=some (ι f):=λx=>x.cell (ql d.o.ring) (qb d.o.ring 1 rfl)
 have aB: ∀x:qp G,x.w'.cell? ⟨R,2,none⟩=some (ι q.length):=λx=>x.cell (ql d.o.ring) (qb d.o.ring 2 rfl)
 have aP:((f:Int)+(q.length:Int))%(room:Int)=(((f+q.length)%room:Nat):Int):=by rw[Int.natCast_emod];rfl
 have aE:(f+q.length)%room<room:=Nat.mod_lt _ τ;have hi:(((f+q.length)%room:Nat):Int)<(room:Int):=by omega
 have aQ:=d.o.pos;have aN:=d.o.fst;have aO:(f:Int)<=8:=by omega
 have aR:(q.length:Int)<=8:=by omega
 generalize aD:(f+q.length)%room=I at *;refine Qn G 21 22 [21] ?_
 refine IA ?_
 refine je rfl rfl (qj ρ) 255 (.tmp 3) rfl w.heap.size 0 rfl x _ (λw' aI=>by obtain⟨y,rfl⟩:=aI;exact xw (qc y.h au.o)) underlying255 rfl (by rw[N.1];kernel_rfl) ?_;intro K aa;go_simp;refine aa _ ?_;clear aa K
 refine Qq1 ?_
 refine yc rfl rfl ζ ?_;intro K aa;refine zF 255 (.tmp 48) (.tmp 47) rfl A (I* 14) 255 cs.flatten.toArray x rfl rfl (qn d.o.row 1) (by rw[d.o.size,N.1];have:=Nat.mul_le_mul_right 14 (show I+1<=room by omega);omega) (by rw[N.1];kernel_rfl) N.2 ?_;refine⟨trivial, ?_⟩;go_simp;refine aa _ _ ?_;clear aa K az aA aB;refine qv ?_;obtain⟨W6,J⟩:=ν ((G.drewN 1).setRow A (xR cs.flatten (I* 14) x).toArray);have ax:Hid (qg (RgB R A) w W6):=κ (by rw[<-J];exact(ah.o.drewN 1).row (Or.inr rfl) _);have O:Hid (W6.heap[R]? =some (.cells (jR A room f q.length U ae ac ad) 330 (0,0))):=κ (by rw[<-J];exact qT (qn d.o.ring 1) _ d.o.ne);have aC:Hid (W6.heap[A]? =some (.cells (cs.set I x).flatten.toArray 255 (0,0))):=κ (by rw[<-J,<-JW cs I _ d.o.cl N.1 (by rw[d.o.len];exact aE)];exact jT (qn d.o.row 1) _);have ak:Hid (W6.heap[w.heap.size+1]? =some (.cells Γb 255 (0,0))):=κ (by rw[<-J];exact qT (qn aj.o 1) _ τ);have ay:Hid (W6.heap[w.heap.size+2]? =some (.cells Γb 255 (0,0))):=κ (by rw[<-J];exact qT (qn an.o 1) _ τ);rw[J];clear J ah au aj an;have av:w.heap.size+2≠R:=by omega
 have af:w.heap.size+1≠R:=by omega
 have aT:W6.cell? ⟨R,2,none⟩=some (ι q.length):=qb O.o 2 rfl;have aJ:W6.frozen? ⟨R,2,none⟩=false:=qd O.o 2;have aV:W6.cell? ⟨R,4,none⟩=some (ι U):=qb O.o 4 rfl;have aK:W6.frozen? ⟨R,4,none⟩=false:=qd O.o 4
 go_wp2_with (first | (refine yL (.load 255 (.tmp 7)) rfl ?_;refine vT rfl 255 (.tmp 7) rfl (w.heap.size+2) 255 Γb _ (qm (qm ay.o ⟨R,2,none⟩ _ av) ⟨R,4,none⟩ _ av) rfl underlying255 rfl ξ ?_) | (refine yL (.store 255 (.tmp 4) (.tmp 65)) rfl ?_;refine xV rfl 255 (.tmp 4) (.tmp 65) rfl (w.heap.size+1) 255 _ Γb (qm (qm ak.o ⟨R,2,none⟩ _ af) ⟨R,4,none⟩ _ af) rfl rfl ξ rfl (all_oneCell_toArray zokC.2) ?_))
 have aw:R≠A:=d.o.ne;refine bodyPost_ret (v:= .tuple #[Γb,μ false,ι 0]) (Ud results199 _ _ (w.heap.size+1) 255 Γb _ _ _ rfl rfl rfl (jT (qm (qm ak.o ⟨R,2,none⟩ _ af) ⟨R,4,none⟩ _ af) _) underlying255 rfl ξ) rfl ?_;subst aD;obtain rfl:=aq.o;obtain rfl:=ap.o;refine⟨rfl,⟨wrap64 (U+1),d.o.put aH N ?_ ?_⟩,((ax.o.set (Or.inl rfl) _).set (Or.inl rfl) _).rowNew τ _⟩
 ·exact qT (qA (qo (qo O.o 2 _) 4 _) rfl) _ τ
 ·exact qT (qm (qm aC.o _ _ (Ne.symm aw)) _ _ (Ne.symm aw)) _ τ
theorem Ay (c:List Value) (h:c.length=14): ∃a0 a1 a2 a3 a4 a5 a6 a7 a8 a9 a10 a11 a12 a13,c=[a0,a1,a2,a3,a4,a5,a6,a7,a8,a9,a10,a11,a12,a13]:=by
 match c,h with
 | [a0,a1,a2,a3,a4,a5,a6,a7,a8,a9,a10,a11,a12,a13],_=>exact⟨a0,a1,a2,a3,a4,a5,a6,a7,a8,a9,a10,a11,a12,a13,rfl⟩
theorem YO {S:Nat->Prop} {w w':World} {base e n m:Nat} {v:Value} {xs:List Value} (h:w.ownsRow base e n v m xs) (a:qg S w w') (H: ∀b,base<=b-> ¬S b):w'.ownsRow base e n v m xs:=by
 obtain⟨d,G⟩:=h;refine⟨d, ?_⟩;rcases G with h | ⟨b,cap,cur,e1,hb,hg,rest⟩
 ·exact Or.inl h
 ·exact Or.inr ⟨b,cap,cur,e1,hb,a.blk hg (H b hb),rest⟩
theorem Ae {w:World} {base e size n b:Nat} {v:Value} {xs:List Value} (h:w.ownsRow base e size v n xs) (d:v.ownBlock=some b):base<=b:=by
 rcases h.2 with ⟨rfl,_⟩ | ⟨g,cap,cur,rfl,G,_⟩
 ·cases d
 ·obtain rfl:g=b:=by injection d
  exact G
theorem Cz {w:World} {base e size n:Nat} {v:Value} {xs:List Value} (h:w.ownsRow base e size v n xs): ∃oa cap,v= δ oa n cap:=by
 rcases h.2 with ⟨rfl,d⟩ | ⟨g,cap,cur,rfl,_⟩
 ·exact⟨none,0,by rw[d]⟩
 ·exact⟨_,cap,rfl⟩
theorem Lq (w:World) (R A room first:Nat) (q:List (List Value)) (J N H I:Int) (css:List (List Value)) (h:qO 14 330 255 w R A room first q J N H I css):
  Calls prog 183 #[γ R] w λe w'=> ∃v,e= .returned v/\w'.ownsRow w.heap.size 255 14 v q.length q.flatten/\(∃first' cg' css',qO 14 330 255 w' R A room first' [] J N H cg' css')/\qg (RgB R A) w w':=by
 obtain⟨aP,aQ,aR,aS,aT⟩:=info_parts (P:=prog) (e:=255) (z:= Γb) (size:=14) (bytes:=128) ξ;have aB:=κ h;have aX:R<w.heap.size:=ql h.ring;have aW:A<w.heap.size:=ql h.row;have bd:w.cell? ⟨R,2,none⟩=some (ι q.length):=qb h.ring 2 rfl;have bb:(q.length:Int)<=8:=by have:=h.fits;have:=h.pos.2;omega
 have aH:=κ h.qall;clear h
 go_enter func183,ntmps183
 go_wp2
 go_loopw [3,8] (λu an wr=> ∃(j f:Nat) (cs:List (List Value)),j<=q.length/\an= ι j/\(∃ay ax ar,u= δ ay ax ar)/\wr.ownsRow w.heap.size 255 14 u j (q.take j).flatten/\qO 14 330 255 wr R A room f (q.drop j) J N H I cs/\qg (RgB R A) w wr) (λ_ an _=>q.length-(intOf an).toNat)
 case atStart=>exact⟨0,first,css,τ,rfl,⟨_,_,_,rfl⟩,World.ownsRow_nil w _ _ _,aB.o,qg.refl _ _⟩
 case round=>
  obtain⟨j,f,cs,aZ,rfl,⟨ay,ax,ar,rfl⟩,d,aw,av⟩:=hrel;have ao:=κ d;have G:=κ aw;have ai:=κ av;clear d aw av;by_cases hlt:j<q.length
  ·have ak:q.drop j=q[j]::q.drop (j+1):=List.drop_eq_getElem_cons hlt;have am:q.take (j+1)=q.take j++[q[j]]:=by rw[List.take_add_one,List.getElem?_eq_getElem hlt];rfl
   have ah:=aH.o q[j] (List.getElem_mem hlt);have ba:(j:Int)<(q.length:Int):=by omega
   obtain⟨c,aJ⟩: ∃c,Hid (c=q[j]):=⟨_,κ rfl⟩;rw[<-aJ.o] at ak am ah;have aE:=κ (ak▸G.o);have aF:=κ am;have aY:c.toArray.size=14:=by simpa using ah.1
   clear ak am G;obtain⟨a0,U,ad,a3,a4,a5,ae,af,ag,a9,Y,aa,ab,ac,rfl⟩:=Ay c ah.1
   go_wp2_with (first | (go_at_call 239;(go_call Hy wr R A room f [a0,U,ad,a3,a4,a5,ae,af,ag,a9,Y,aa,ab,ac] (q.drop (j+1)) J N H I cs aE.o as e w5 ⟨rfl,au,a5⟩;have aC:=κ au;have az:=κ a5;have O:=κ (YO ao.o a5 (λb aj e=>by rcases e with e | e<;>omega));have aI:Hid (w.heap.size<=w5.heap.size):=κ (Nat.le_trans ai.o.size a5.size);clear au a5)) | (at_builtin;refine wpList_append_own_at _ rfl (.tmp 10) (.tmp 13) 328 rfl w.heap.size 255 aP (Γb) 14 128 underlying328 aQ aR aS aT rfl ζ _ j (q.take j).flatten rfl (YO O.o (qg.of_more (qa.alloc _ _)) (λb _ e=>e)) ⟨w5.heap.size,0,none⟩ 1 1 [a0,U,ad,a3,a4,a5,ae,af,ag,a9,Y,aa,ab,ac] rfl rfl (λi u aM=>by have:=xw (cs:=[a0,U,ad,a3,a4,a5,ae,af,ag,a9,Y,aa,ab,ac]) (t:=255) (qk w5 (.cells #[a0,U,ad,a3,a4,a5,ae,af,ag,a9,Y,aa,ab,ac] 255)) i u aM;rw[Addr.add_mid];exact this) ah.2 (by unfold maxLen;omega) τ (by have:=aI.o;simp;omega) ?_;intro bf w6 d al aK aN;have aG:=κ d;have aA:Hid (qg (RgB R A) w w6):=κ (((ai.o.trans az.o).alc _).grown al (λb aj=>Ae O.o aj));have aD:Hid (qO 14 330 255 w6 R A room ((f+1)%room) (q.drop (j+1)) J N H I (cs.set f Γb)):=κ ((aC.o.more (qa.alloc _ _)).away (qg.of_grown al) (λe=>by have:=Ae O.o e;omega) (λe=>by have:=Ae O.o e;omega));obtain⟨bc,aU,rfl⟩:=Cz d;clear d al aK aN))
   go_roundw
   case rel=>exact⟨j+1,(f+1)%room,_,τ,by go_num,⟨_,_,_,rfl⟩,by rw[aF.o,List.flatten_append];simpa using aG.o,aD.o,aA.o⟩
   case measure=>simp[intOf];omega
  ·obtain rfl:j=q.length:=by omega
   have be:wr.cell? ⟨R,7,none⟩=some (ι I):=qb G.o.ring 7 rfl;have aV:wr.frozen? ⟨R,7,none⟩=false:=qd G.o.ring 7;go_wp2;go_ret;have aO:q.drop q.length=[]:=by simp
   have aL:q.take q.length=q:=by simp
   have aq:=G.o;have ap:=ao.o;rw[aO] at aq;rw[aL] at ap;exact⟨_,rfl,YO ap ((qg.refl (λb=>b=R) _).set rfl _) (λb aj e=>by omega),⟨_,_,_,aq.drained _⟩,ai.o.set (Or.inl rfl) _⟩
theorem FW (i:Int) (c:List Value) (d:c.length=13) (w:World):Calls prog 184 #[θ (ι i::c).toArray] w λe w'=>e= .returned (ι i)/\qa w w':=by
 obtain⟨a0,G,O,a3,a4,a5,U,Y,aa,a9,H,I,J,N,h⟩:=Ay (ι i::c) (by simp[d]);obtain⟨rfl,rfl⟩:a0= ι i/\c=[G,O,a3,a4,a5,U,Y,aa,a9,H,I,J,N]:=by
  injection h with h1 h2
  exact⟨h1.symm,h2⟩
 clear h d
 go_enter func184,ntmps184
 go_wp2;go_ret;exact⟨rfl,ρ⟩
section
open _root_.Go.Proofs.Tryz renaming func182->Ξa,ntmps182->Ξb,underlying255->Ξf
open _root_.Go.Proofs.YtlmllmonabafjaaGreatDoor renaming FW->Ξc,Ν14->Ξd,Ν255->Ξe,Γb->Ξg
theorem Oi (w:World) (v:Value) (q:List (List Value)) (base:Nat) (row:w.ownsRow base 255 14 v q.length q.flatten) (aa: ∀c∈q,∃i r,c= ι i::r/\r.length=13) (ai: ∀c∈q,∀u∈c,u.oneCell'=true) (aN:q.length<=8):
  Calls prog 182 #[v,.func (.func 184) #[] #[]] w λe w'=>(∃v',e= .returned v'/\w'.ownsRow w.heap.size 3 1 v' (q.map idN).length ((q.map idN).map (Value.int .i64)))/\qa w w':=Ψ6
end
structure LnB where
 L:Nat
 R1:Nat
 A1:Nat
 R2:Nat
 A2:Nat
 R3:Nat
 A3:Nat
def LnB.muts (k:LnB) (b:Nat):Prop:=b=k.L∨RgB k.R1 k.A1 b∨RgB k.R2 k.A2 b∨RgB k.R3 k.A3 b
def jO (k:LnB) (vo:Value) (s:LnS):Array Value:=
 #[vo,.pointer (some ⟨k.R1,0,none⟩),.pointer (some ⟨k.R2,0,none⟩),.pointer (some ⟨k.R3,0,none⟩),.bool s.wanted,.int .i64 s.cur,.int .i64 s.tgt,
  .int .u32 s.rw.src,.int .u16 s.rw.sq,.int .u32 s.rw.st,.bool s.rw.any,.int .u32 s.rw.last,.int .u32 s.rw.shift,.int .i64 s.most,.int .i64 s.row,.bool s.gone]
def lnD (N:Nat->Prop) (k:LnB) (b:Nat):Prop:=N b->k.muts b
def lnE (N:Nat->Prop) (k:LnB) (vo:Value) (b:Nat):Prop:=lnD N k b∨vo.ownBlock=some b
def lnM (k:LnB) (vo:Value) (b:Nat):Prop:=k.muts b∨vo.ownBlock=some b
def xd (N:Nat->Prop) (w w':World) (b:Nat):Prop:=N b∨(w.heap.size<=b/\b<w'.heap.size)
structure KT (s:LnS):Prop where
 most:1<=s.most/\s.most<=10
 row:0<=s.row/\s.row<=s.most
 lt:s.gone=false->s.row<s.most
 sq:U16 s.rw.sq
 src:U32 s.rw.src
structure LnX (N:Nat->Prop) (w:World) (k:LnB) (vo:Value) (s:LnS):Prop where
 own: ∀b,N b->b<w.heap.size
 muts: ∀b,k.muts b->N b
 dist:(k.L≠k.R1/\k.L≠k.A1/\k.L≠k.R2/\k.L≠k.A2/\k.L≠k.R3/\k.L≠k.A3)/\(k.R1≠k.A1/\k.R1≠k.R2/\k.R1≠k.A2/\k.R1≠k.R3/\k.R1≠k.A3)/\(k.A1≠k.R2/\k.A1≠k.A2/\k.A1≠k.R3/\k.A1≠k.A3)/\(k.R2≠k.A2/\k.R2≠k.R3/\k.R2≠k.A3)/\(k.A2≠k.R3/\k.A2≠k.A3)/\k.R3≠k.A3
 blk:w.heap[k.L]? =some (.cells (jO k vo s) 153 (0,0))
 r1:RgR 13 327 253 RIt (lnE N k vo) w k.R1 k.A1 s.room s.A
 r2:RgR 14 330 255 RCh (lnE N k vo) w k.R2 k.A2 s.room s.B
 r3:RgR 2 332 56 ROu (lnE N k vo) w k.R3 k.A3 s.room s.C
 o:qV 2 ROu (lnD N k) w 0 56 vo s.W
 ok:KT s
def zw (N:Nat->Prop) (w:World) (L:Nat) (s:LnS):Prop:= ∃k vo,k.L=L/\LnX N w k vo s
section
variable {N:Nat->Prop} {w w':World} {k:LnB} {vo vo':Value} {s s':LnS}
theorem LnX.vob (h:LnX N w k vo s) {b:Nat} (d:vo.ownBlock=some b):N b/\ ¬k.muts b:=by
 have:=h.o.apart b d;unfold lnD at this;exact Classical.not_imp.1 this
theorem LnX.inN (h:LnX N w k vo s) {b:Nat} (d:lnM k vo b):N b:=by
 rcases d with e | e
 ·exact h.muts b e
 ·exact(h.vob e).1
theorem MO {b:Nat} (d:lnM k vo b):lnE N k vo b:=by
 rcases d with e | e
 ·exact Or.inl λ_=>e
 ·exact Or.inr e
theorem uf {b:Nat} (d:k.muts b):lnE N k vo b:=Or.inl λ_=>d
theorem LnX.away (h:LnX N w k vo s) {S:Nat->Prop} (a:qg S w w') (O: ∀b,S b-> ¬N b):LnX N w' k vo s:=by
 have G: ∀b,k.muts b-> ¬S b:=λb d H=>O b H (h.muts b d)
 have I: ∀b,S b->lnE N k vo b:=λb H=>Or.inl λJ=>absurd J (O b H)
 refine⟨λb d=>Nat.lt_of_lt_of_le (h.own b d) a.size,h.muts,h.dist,a.blk h.blk (G _ (Or.inl rfl)), ?_, ?_, ?_, ?_,h.ok⟩
 ·exact h.r1.step a (G _ (Or.inr (Or.inl (Or.inl rfl)))) (G _ (Or.inr (Or.inl (Or.inr rfl)))) I (λb d=>Or.inl d)
 ·exact h.r2.step a (G _ (Or.inr (Or.inr (Or.inl (Or.inl rfl))))) (G _ (Or.inr (Or.inr (Or.inl (Or.inr rfl))))) I (λb d=>Or.inl d)
 ·exact h.r3.step a (G _ (Or.inr (Or.inr (Or.inr (Or.inl rfl))))) (G _ (Or.inr (Or.inr (Or.inr (Or.inr rfl))))) I (λb d=>Or.inl d)
 ·exact h.o.step (a.mono λb H J=>absurd J (O b H))
theorem LnX.on (h:LnX N w k vo s) (m:qa w w'):LnX N w' k vo s:=h.away (S:=λ_=>False) (qg.of_more m) (λ_ e=>e.elim)
theorem zw.away {L:Nat} (h:zw N w L s) {S:Nat->Prop} (a:qg S w w') (d: ∀b,S b-> ¬N b):zw N w' L s:=by
 obtain⟨k,vo,e,x⟩:=h;exact⟨k,vo,e,x.away a d⟩
theorem zw.on {L:Nat} (h:zw N w L s) (m:qa w w'):zw N w' L s:=by
 obtain⟨k,vo,e,x⟩:=h;exact⟨k,vo,e,x.on m⟩
theorem xD (h: ∀b,N b->b<w.heap.size) (H: ∀b,vo'.ownBlock=some b->vo.ownBlock=some b∨w.heap.size<=b) {b:Nat} (G:lnE (xd N w w') k vo' b):lnE N k vo b:=by
 rcases G with e | e
 ·exact Or.inl λd=>e (Or.inl d)
 ·rcases H b e with e1 | e1
  ·exact Or.inr e1
  ·exact Or.inl λd=>by have:=h b d;omega
theorem Fy {b:Nat} (G:lnD (xd N w w') k b):lnD N k b:=λd=>G (Or.inl d)
theorem LnX.held {α:Type} {R:qJ α} {c:List Value} {y:α} (h:LnX N w k vo s) (G:jp R (lnE N k vo) w c y) (a:qg (lnM k vo) w w') (H: ∀b,vo'.ownBlock=some b->vo.ownBlock=some b∨w.heap.size<=b):jp R (lnE (xd N w w') k vo') w' c y:=
 (G.step (a.mono λ_=>MO)).other λ_ d=>Or.inl (xD h.own H d)
theorem LnX.rows (h:LnX N w k vo s) (a:qg k.muts w w'):qV 2 ROu (lnD (xd N w w') k) w' 0 56 vo s.W:=by
 have H:=h.o.step (a.mono λb d _=>d);obtain⟨⟨xs,o,r⟩,G⟩:=H;refine⟨⟨xs,o,λi hi=>(r i hi).other λb d=>Or.inl (xD h.own (λ_ e=>Or.inl e) d)⟩,λb d I=>G b d (Fy I)⟩
theorem LnX.make (h:LnX N w k vo s) (Y:w.heap.size<=w'.heap.size)
  (G:w'.heap[k.L]? =some (.cells (jO k vo' s') 153 (0,0)))
  (J:RgR 13 327 253 RIt (lnE (xd N w w') k vo') w' k.R1 k.A1 s'.room s'.A)
  (O:RgR 14 330 255 RCh (lnE (xd N w w') k vo') w' k.R2 k.A2 s'.room s'.B)
  (U:RgR 2 332 56 ROu (lnE (xd N w w') k vo') w' k.R3 k.A3 s'.room s'.C)
  (I:qV 2 ROu (lnD (xd N w w') k) w' 0 56 vo' s'.W) (H:KT s'):LnX (xd N w w') w' k vo' s':=
 ⟨λb d=>by
  rcases d with e | e
  ·exact Nat.lt_of_lt_of_le (h.own b e) Y
  ·exact e.2,λb d=>Or.inl (h.muts b d),h.dist,G,J,O,U,I,H⟩
theorem LnX.grow (h:LnX N w k vo s) (m:qa w w'):LnX (xd N w w') w' k vo s:=by
 have H:=h.on m;have a:qg (λ_=>False) w w':=qg.of_more m;have d: ∀b,lnE (xd N w w') k vo b->lnE N k vo b∨w'.heap.size<=b:=λb G=>Or.inl (xD h.own (λ_ e=>Or.inl e) G)
 exact h.make m.size H.blk (h.r1.step a (λe=>e) (λe=>e) (λ_ e=>e.elim) d) (h.r2.step a (λe=>e) (λe=>e) (λ_ e=>e.elim) d) (h.r3.step a (λe=>e) (λe=>e) (λ_ e=>e.elim) d) (h.rows (qg.of_more m)) h.ok
end
theorem Lc {P:Program} {H:Func} {p:Tmp} {d:TypeId} (h:H.results= #[.cell p d]) (tmps:Array Value) (w:World) (g:Nat) (t:TypeId) (cs:Array Value) (G:TypeDesc)
  (N:tmps.getD p undef= γ g) (J:w.heap[g]? =some (.cells cs t (0,0)))
  (U:P.underlying d=some G) (I:(match G with | .struct _ | .array _ _=>true | _=>false)=true) (hi:(P.info? d).map (·.size)=some cs.size):
  (results H tmps).run P w= .ok (θ cs) w:=by
 have O:tmps[p]?.getD undef= γ g:=by simpa using N
 simp[results,h,O,asAddr,run_loadVar_row w g t d cs (0,0) G J U I hi]
section
variable {N:Nat->Prop} {w:World} {k:LnB} {vo:Value} {s:LnS}
theorem gM (h:LnX N w k vo s):Calls prog 69 #[γ k.L] w λe w'=>e= .returned (μ s.gone)/\qa w w':=by
 have d:w.cell? ⟨k.L,15,none⟩=some (μ s.gone):=qb h.blk 15 rfl;clear h
 go_enter func69,ntmps69
 go_wp2;go_ret;exact⟨rfl,ρ⟩
theorem Gn (h:LnX N w k vo s) {w':World} (m:qa w w'):Calls prog 113 #[γ k.R1] w' λe w''=>e= .returned (ι s.A.length)/\w''=w':=by
 obtain⟨f,q,J,O,H,I,css,d,G⟩:=(h.on m).r1;rw[<-G.len];exact Oc d
theorem Gm (h:LnX N w k vo s) {w':World} (m:qa w w'):Calls prog 114 #[γ k.R2] w' λe w''=>e= .returned (ι s.B.length)/\w''=w':=by
 obtain⟨f,q,J,O,H,I,css,d,G⟩:=(h.on m).r2;rw[<-G.len];exact Od d
theorem Gl (h:LnX N w k vo s) {w':World} (m:qa w w'):Calls prog 115 #[γ k.R3] w' λe w''=>e= .returned (ι s.C.length)/\w''=w':=by
 obtain⟨f,q,J,O,H,I,css,d,G⟩:=(h.on m).r3;rw[<-G.len];exact Ob d
theorem CM (h:LnX N w k vo s) {w':World} (m:qa w w'):Calls prog 120 #[γ k.R2] w' λe w''=>e= .returned (μ (decide (s.B.length=s.room)))/\qa w' w'':=by
 obtain⟨f,q,J,O,H,I,css,d,G⟩:=(h.on m).r2;rw[<-G.len];refine(Id d).mono ?_;rintro e w'' ⟨rfl,n,rfl⟩;exact⟨rfl,(qa.refl _).dr n⟩
theorem YL (h:LnX N w k vo s):Calls prog 74 #[γ k.L,ι 1] w λe w'=>e= .returned (μ (zp s 1))/\qa w w':=by
 have c1:w.cell? ⟨k.L,1,none⟩=some (π (some ⟨k.R1,0,none⟩)):=qb h.blk 1 rfl;have c2:w.cell? ⟨k.L,2,none⟩=some (π (some ⟨k.R2,0,none⟩)):=qb h.blk 2 rfl;have U:zp s 1=(decide (0<s.A.length)&&decide (¬s.B.length=s.room)):=rfl;have J:=κ (Gn h (qa.refl w));have d:=κ (CM h (qa.refl w));rw[U];clear h U;obtain⟨b,G⟩:=ν (decide (s.B.length=s.room));rw[G] at d;have O:decide (¬s.B.length=s.room)= !b:=by rw[<-G];simp
 rw[O];clear G O;by_cases hl:0<s.A.length
 ·have Y:(0:Int)<(s.A.length:Int):=by omega
  have H:decide (0<s.A.length)=true:=by simp;omega
  rw[H]
  go_enter func74,ntmps74
  go_wp2_with (first | (go_at_call 113;(go_call J.o as e w1 ⟨rfl,rfl⟩)) | (go_at_call 120;(go_call d.o as e w2 ⟨rfl,I⟩)))
  all_goals (go_ret;first | exact⟨η,I⟩ | exact⟨η,qa.refl _⟩)
 ·have Y: ¬(0:Int)<(s.A.length:Int):=by omega
  have H:decide (0<s.A.length)=false:=decide_eq_false hl;rw[H]
  go_enter func74,ntmps74
  go_wp2_with (first | (go_at_call 113;(go_call J.o as e w1 ⟨rfl,rfl⟩)) | (go_at_call 120;(go_call d.o as e w2 ⟨rfl,I⟩)))
  all_goals (go_ret;first | exact⟨η,I⟩ | exact⟨η,qa.refl _⟩)
theorem YK (h:LnX N w k vo s):Calls prog 74 #[γ k.L,ι 2] w λe w'=>e= .returned (μ (zp s 2))/\qa w w':=by
 have c2:w.cell? ⟨k.L,2,none⟩=some (π (some ⟨k.R2,0,none⟩)):=qb h.blk 2 rfl;have d:zp s 2=decide (0<s.B.length):=rfl;have G:=κ (Gm h (qa.refl w));rw[d];clear h d
 go_enter func74,ntmps74
 go_wp2_with (go_at_call 114;(go_call G.o as e w1 ⟨rfl,rfl⟩))
 go_ret;exact⟨η,qa.refl _⟩
theorem JH (h:LnX N w k vo s):Calls prog 74 #[γ k.L,ι 3] w λe w'=>e= .returned (μ (zp s 3))/\qa w w':=by
 have c3:w.cell? ⟨k.L,3,none⟩=some (π (some ⟨k.R3,0,none⟩)):=qb h.blk 3 rfl;have d:zp s 3=decide (0<s.C.length):=rfl;have G:=κ (Gl h (qa.refl w));rw[d];clear h d
 go_enter func74,ntmps74
 go_wp2_with (go_at_call 115;(go_call G.o as e w1 ⟨rfl,rfl⟩))
 go_ret;exact⟨η,qa.refl _⟩
theorem Fz (h:LnX N w k vo s):Calls prog 68 #[γ k.L] w λe w'=>e= .returned (θ #[ι s.A.length,ι s.B.length,ι s.C.length])/\qa w w':=by
 have H:=κ h;clear h
 go_enter func68,ntmps68
 go_wp2;obtain⟨W1,J⟩:=ν (w.alloc (.cells #[ι 0,ι 0,ι 0] 104));have G:Hid (qa w W1):=κ (by rw[<-J];exact qa.alloc _ _);have O:Hid (W1.heap[w.heap.size]? =some (.cells #[ι 0,ι 0,ι 0] 104 (0,0))):=κ (by rw[<-J];exact qk w _);rw[J];clear J;have I:=λ(x:qp W1)=>qc (G.o.trans x.h) H.o.blk
 have c1:=λx=>β1 (I x);have c2:=λx=>β2 (I x);have c3:=λx=>β3 (I x);clear I
 refine xY W1 16 [(0,false),(1,false),(2,false),(3,false),(5,false),(6,false),(7,false),(8,false),(10,false),(11,false),(12,false),(13,false),(4,true),(9,true),(14,true),(15,false),(16,true)] ξ ξ ?_
 refine EF ?_
 (refine Ql ?_;intro K d)
 go_call Gn H.o (G.o.dr 1) as e w2 ⟨rfl,rfl⟩;refine⟨_,rfl,qj ρ,d _ _ ?_⟩;clear d K
 (refine Ql ?_;intro K d)
 go_call Gm H.o (G.o.dr 1) as e w2 ⟨rfl,rfl⟩;refine⟨_,rfl,qj ρ,d _ _ ?_⟩;clear d K
 (refine Ql ?_;intro K d)
 go_call Gl H.o (G.o.dr 1) as e w2 ⟨rfl,rfl⟩;refine⟨_,rfl,qj ρ,d _ _ ?_⟩;clear d K
 refine Qq1 ?_
 refine yc rfl rfl ζ ?_;intro K d;refine jq 104 (.tmp 2) (.tmp 18) rfl w.heap.size 104 _ #[ι s.A.length,ι s.B.length,ι s.C.length] rfl rfl (qn O.o 1) ξ rfl (all_oneCell_toArray (by simp[Value.oneCell'])) ?_;refine⟨trivial, ?_⟩;go_simp;refine d _ _ ?_;clear d K;refine qv ?_;go_wp2;refine bodyPost_ret (v:= θ #[ι s.A.length,ι s.B.length,ι s.C.length]) (Lc results68 _ _ w.heap.size 104 #[ι s.A.length,ι s.B.length,ι s.C.length] _ rfl (jT (qn O.o 1) _) underlying104 rfl ξ) rfl ?_;exact⟨rfl,(j9 _ _ _).to_more (G.o.dr 1) (λk e=>by rw[e];exact Nat.le_refl _)⟩
theorem Bq (h:LnX N w k vo s):Calls prog 67 #[γ k.L] w λe w'=>e= .returned (.tuple #[θ #[ι s.cur,ι s.tgt],s.wanted])/\qa w w':=by
 have O:=κ h;have ab:k.L<w.heap.size:=ql h.blk;clear h
 go_enter func67,ntmps67
 go_wp2;obtain⟨W1,H⟩:=ν (w.alloc (.cells #[ι 0,ι 0] 103));have I:Hid (qa w W1):=κ (by rw[<-H];exact qa.alloc _ _);have J:Hid (W1.heap[w.heap.size]? =some (.cells #[ι 0,ι 0] 103 (0,0))):=κ (by rw[<-H];exact qk w _);rw[H];clear H;have c4:=λ(x:qu (λb=>b=w.heap.size) W1)=>β4 (x.h.blk (qc I.o O.o.blk) τ)
 have Y: ∀x:qu (λb=>b=w.heap.size) W1,x.w'.rangeAt k.L 5 [ι s.cur,ι s.tgt]:=λx j v G=>by
  have U:=x.h.blk (qc I.o O.o.blk) (show ¬k.L=w.heap.size by omega)
  match j,G with
  | 0,G=>exact qb U 5 G
  | 1,G=>exact qb U 6 G
 refine QN (λb=>b=w.heap.size) W1 10 10 [8] ?_
 refine Qs3 ?_
 refine je rfl rfl (qi σ) 103 (.tmp 6) rfl k.L 5 rfl [ι s.cur,ι s.tgt] _ (λw' aa=>by obtain⟨x,rfl⟩:=aa;exact Y x) underlying103 rfl ξ ?_;intro K d;go_simp;refine d _ ?_;clear d K
 refine Qs4 ?_
 refine jJ rfl rfl ?_;intro K d;refine jq 103 (.tmp 2) (.tmp 7) rfl w.heap.size 103 _ #[ι s.cur,ι s.tgt] rfl rfl (qn J.o 1) ξ rfl (all_oneCell_toArray (by simp[Value.oneCell'])) ?_;refine⟨qi (((qg.refl (λb=>b=w.heap.size) W1).drewN 1).row (g:=w.heap.size) rfl _), ?_⟩;go_simp;refine d _ _ ?_;clear d K
 iterate 1 (refine qD rfl rfl (qi (((qg.refl (λb=>b=w.heap.size) W1).drewN 1).row (g:=w.heap.size) rfl _)) ?_;intro K d;go_big_quiet_op;go_big_quiet_on)
 refine qv ?_;go_wp2;refine bodyPost_ret (v:= .tuple #[θ #[ι s.cur,ι s.tgt],s.wanted]) (yD results67 _ _ w.heap.size 103 #[ι s.cur,ι s.tgt] _ _ rfl rfl (jT (qn J.o 1) _) underlying103 rfl ξ) rfl ?_;exact⟨rfl,(j9 _ _ _).to_more (I.o.dr 1) (λk e=>by rw[e];exact Nat.le_refl _)⟩
end
section
variable {N:Nat->Prop} {w w':World} {k:LnB} {vo:Value} {s s':LnS}
theorem LnX.setL (h:LnX N w k vo s) (a:qg (λb=>b=k.L) w w') (J:w'.heap[k.L]? =some (.cells (jO k vo s') 153 (0,0)))
  (e:s'.room=s.room/\s'.A=s.A/\s'.B=s.B/\s'.C=s.C/\s'.W=s.W) (ah:KT s'):LnX (xd N w w') w' k vo s':=by
 obtain⟨⟨O,U,Y,aa,ab,ac⟩,_⟩:=h.dist;obtain⟨G,ad,ae,af,ag⟩:=e;have H: ∀b,b=k.L->lnE N k vo b:=λb d=>uf (Or.inl d)
 have I: ∀b,lnE (xd N w w') k vo b->lnE N k vo b∨w'.heap.size<=b:=λb d=>Or.inl (xD h.own (λ_ e=>Or.inl e) d)
 refine h.make a.size J ?_ ?_ ?_ ?_ ah
 ·rw[G,ad];exact h.r1.step a (Ne.symm O) (Ne.symm U) H I
 ·rw[G,ae];exact h.r2.step a (Ne.symm Y) (Ne.symm aa) H I
 ·rw[G,af];exact h.r3.step a (Ne.symm ab) (Ne.symm ac) H I
 ·rw[ag];exact h.rows (a.mono λb d=>Or.inl d)
theorem EM (h:LnX N w k vo s) (n:Int):Calls prog 91 #[γ k.L,ι n] w λe w'=>e= .returned (ι (jA s n).2)/\LnX (xd N w w') w' k vo (jA s n).1/\qg N w w':=by
 have I:=κ h;have ak:k.L<w.heap.size:=ql h.blk;cases ht:jc n with
 | false=>
  have aa:=κ ht;have O:jA s n=(s,1):=by unfold jA;rw[if_pos ht]
  rw[O];clear O ht h
  go_enter func91,ntmps91
  go_wp2_with (go_at_call 151;(go_call xW n _ as e w1 ⟨rfl,rfl⟩;rw[aa.o]))
  go_ret;exact⟨rfl,I.o.grow (qa.refl _),qg.refl _ _⟩
 | true=>
  have aa:=κ ht;cases hg:s.gone with
  | true=>
   have O:jA s n=(s,7):=by unfold jA;rw[if_neg (by rw[ht];decide),if_pos hg]
   have J:=gM h;rw[hg] at J;have J:=κ J;rw[O];clear O ht h hg
   go_enter func91,ntmps91
   go_wp2_with (first | (go_at_call 151;(go_call xW n _ as e w1 ⟨rfl,rfl⟩;rw[aa.o])) | (go_at_call 69;(go_call J.o as e w2 ⟨rfl,U⟩;have ac:=κ U;clear U)))
   go_ret;exact⟨rfl,I.o.grow ac.o,qg.of_more ac.o⟩
  | false=>
   have O:jA s n=({s with wanted:=true,cur:=if s.wanted then s.cur else -1,tgt:=n},0):=by unfold jA;rw[if_neg (by rw[ht];decide),if_neg (by rw[hg];decide)]
   have J:=gM h;rw[hg] at J;have J:=κ J;rw[O];clear O ht h hg;cases hw:s.wanted with
   | true=>
    have ad:=κ hw;clear hw
    go_enter func91,ntmps91
    go_wp2_with (first | (go_at_call 151;(go_call xW n _ as e w1 ⟨rfl,O⟩;subst w1;rw[aa.o])) | (go_at_call 69;(go_call J.o as e w2 ⟨rfl,U⟩;have ac:=κ U;have Y:=κ (qc U I.o.blk);clear U;have c4:w2.cell? ⟨k.L,4,none⟩=some (μ true):=(by rw[<-ad.o];exact qb Y.o 4 rfl);have c5:w2.cell? ⟨k.L,5,none⟩=some (ι s.cur):=qb Y.o 5 rfl;have af:w2.cell? ⟨k.L,6,none⟩=some (ι s.tgt):=qb Y.o 6 rfl)) | (go_at_call 152;(go_call QY s.cur s.tgt n aa.o _ as e d ⟨rfl,ab⟩;have ae:Hid (qa w d):=κ (ac.o.trans ab);have G:=κ (qc ab Y.o);clear ab;have c5:d.cell? ⟨k.L,5,none⟩=some (ι s.cur):=qb G.o 5 rfl;have af:d.cell? ⟨k.L,6,none⟩=some (ι s.tgt):=qb G.o 6 rfl;have c4:d.cell? ⟨k.L,4,none⟩=some (μ s.wanted):=qb G.o 4 rfl;have ah:d.frozen? ⟨k.L,4,none⟩=false:=qd G.o 4;have ai:d.frozen? ⟨k.L,5,none⟩=false:=qd G.o 5;have aj:d.frozen? ⟨k.L,6,none⟩=false:=qd G.o 6)))
    go_ret;have A:qg (λb=>b=k.L) w (((d.setCell ⟨k.L,5,none⟩ (ι s.cur)).setCell ⟨k.L,6,none⟩ (ι n)).setCell ⟨k.L,4,none⟩ (μ true)):=(((qg.of_more (S:=λb=>b=k.L) ae.o).set (p:=⟨k.L,5,none⟩) rfl _).set (p:=⟨k.L,6,none⟩) rfl _).set (p:=⟨k.L,4,none⟩) rfl _;have H:=I.o.ok;exact⟨rfl,I.o.setL A (qA (qo (qo (qo G.o 5 _) 6 _) 4 _) (by rfl)) ⟨rfl,rfl,rfl,rfl,rfl⟩ ⟨H.most,H.row,H.lt,H.sq,H.src⟩,A.mono λb ag=>by rw[ag];exact I.o.muts _ (Or.inl rfl)⟩
   | false=>
    have ad:=κ hw;clear hw
    go_enter func91,ntmps91
    go_wp2_with (first | (go_at_call 151;(go_call xW n _ as e w1 ⟨rfl,O⟩;subst w1;rw[aa.o])) | (go_at_call 69;(go_call J.o as e w2 ⟨rfl,U⟩;have ac:=κ U;have Y:=κ (qc U I.o.blk);clear U;have c4:w2.cell? ⟨k.L,4,none⟩=some (μ false):=(by rw[<-ad.o];exact qb Y.o 4 rfl);have c5:w2.cell? ⟨k.L,5,none⟩=some (ι s.cur):=qb Y.o 5 rfl;have af:w2.cell? ⟨k.L,6,none⟩=some (ι s.tgt):=qb Y.o 6 rfl)) | (go_at_call 153;(go_call Y1 n aa.o _ as e d ⟨rfl,ab⟩;have ae:Hid (qa w d):=κ (ac.o.trans ab);have G:=κ (qc ab Y.o);clear ab;have c5:d.cell? ⟨k.L,5,none⟩=some (ι s.cur):=qb G.o 5 rfl;have af:d.cell? ⟨k.L,6,none⟩=some (ι s.tgt):=qb G.o 6 rfl;have c4:d.cell? ⟨k.L,4,none⟩=some (μ s.wanted):=qb G.o 4 rfl;have ah:d.frozen? ⟨k.L,4,none⟩=false:=qd G.o 4;have ai:d.frozen? ⟨k.L,5,none⟩=false:=qd G.o 5;have aj:d.frozen? ⟨k.L,6,none⟩=false:=qd G.o 6)))
    go_ret;have A:qg (λb=>b=k.L) w (((d.setCell ⟨k.L,5,none⟩ (ι (-1))).setCell ⟨k.L,6,none⟩ (ι n)).setCell ⟨k.L,4,none⟩ (μ true)):=(((qg.of_more (S:=λb=>b=k.L) ae.o).set (p:=⟨k.L,5,none⟩) rfl _).set (p:=⟨k.L,6,none⟩) rfl _).set (p:=⟨k.L,4,none⟩) rfl _;have H:=I.o.ok;exact⟨rfl,I.o.setL A (qA (qo (qo (qo G.o 5 _) 6 _) 4 _) (by rfl)) ⟨rfl,rfl,rfl,rfl,rfl⟩ ⟨H.most,H.row,H.lt,H.sq,H.src⟩,A.mono λb ag=>by rw[ag];exact I.o.muts _ (Or.inl rfl)⟩
end
theorem IQ (m d H sq st:Int) (n:Nat) (ad:m=n) (Y:1<=n) (aa:n<=8) (ag:1<=d) (ah:d<=10) (aC:U16 sq) (aD:U32 H) (w:World):Calls prog 88 #[θ #[ι m,ι d,ω H,φ sq,ω st]] w λe w'=> ∃L,e= .returned (.tuple #[γ L,ι 0])/\zw (λb=>w.heap.size<=b/\b<w'.heap.size) w' L (Yp n d H sq st)/\qa w w':=by
 have aJ:=κ (PH m n ad Y aa);have aK:=κ (PI m n ad Y aa);have aL:=κ (PG m n ad Y aa);have aM:=κ (Kj d ag ah);have aO:Hid (KT (Yp n d H sq st)):=κ ⟨⟨ag,ah⟩,⟨Int.le_refl _,(by show 0<=d;omega)⟩,λ_=>(by show 0<d;omega),aC,aD⟩;clear ad Y aa ag ah aC aD
 go_enter func88,ntmps88
 go_wp2_with (first | (go_at_call 146;(go_call aJ.o _ as e w1 ⟨rfl,az,aj⟩;have ap:Hid (qO 13 327 253 w1 (w.heap.size+1+1) (w.heap.size+1) n 0 [] 0 0 0 0 (List.replicate n (Γa:List Value))):=κ (by simpa using az);have au:=κ (qc aj (qk w (.cells #[ι m,ι d,ω H,φ sq,ω st] 199)));have aR:Hid (qa w w1):=κ ((qa.alloc _ _).trans aj);clear aj az;have aT:w1.cell? ⟨w.heap.size,0,none⟩=some (ι m):=qb au.o 0 rfl)) | (go_at_call 147;(go_call aK.o _ as e w2 ⟨rfl,aA,ak⟩;have aq:=κ aA;have av:=κ (qc ak au.o);have ax:Hid (qa w1 w2):=κ ak;clear ak aA;have aT:w2.cell? ⟨w.heap.size,0,none⟩=some (ι m):=qb av.o 0 rfl)) | (go_at_call 148;(go_call aL.o _ as e ae ⟨rfl,aB,am⟩;have ar:=κ aB;have aw:=κ (qc am av.o);have af:Hid (qa w2 ae):=κ am;clear am aB;have c1:ae.cell? ⟨w.heap.size,1,none⟩=some (ι d):=qb aw.o 1 rfl)) | (go_at_call 149;(go_call aM.o _ as e w4 ⟨rfl,an⟩;have aS:Hid (qa ae w4):=κ an;have aP:=κ (qc an aw.o);clear an)))
 obtain⟨I,ab⟩:=ν (w4.alloc (.cells #[ι d,ι 0,false] 151));have ay:Hid (qa w4 I):=κ (by rw[<-ab];exact qa.alloc _ _);have aQ:=κ (qc ay.o aP.o);have aI:Hid (I.heap[w4.heap.size]? =some (.cells #[ι d,ι 0,false] 151 (0,0))):=κ (by rw[<-ab];exact qk w4 _);rw[ab];clear ab;have O:=λ(x:qp I)=>qc x.h aQ.o
 have c2:=λx=>β2 (O x);have c3:=λx=>β3 (O x);have c4:=λx=>β4 (O x);clear O
 have aN: ∀x:qp I,x.w'.rangeAt w4.heap.size 0 [ι d,ι 0,false]:=λx=>xw (qc x.h aI.o)
 refine xY I 15 [(0,false),(1,false),(2,false),(3,false),(4,false),(5,false),(6,false),(7,false),(8,false),(10,false),(9,true),(11,false),(12,true),(13,false),(14,false)] ξ ξ ?_
 refine Qq9 ?_
 refine je rfl rfl (qj ρ) 151 (.tmp 8) rfl w4.heap.size 0 rfl [ι d,ι 0,false] _ (λw' aU=>by obtain⟨x,rfl⟩:=aU;exact aN x) underlying151 rfl ξ ?_;intro K G;go_simp;refine G _ ?_;clear G K
 (refine Ql ?_;intro K G)
 go_call Zj H sq st _ as e w6 ⟨rfl,aE⟩;have J:Hid (qa I w6):=κ ((qa.drewN _ _).trans aE);clear aE;refine⟨_,rfl,qj J.o,G _ _ ?_⟩;clear G K
 iterate 1 (refine qD rfl rfl (qj J.o) ?_;intro K G;go_big_quiet_op;go_big_quiet_on)
 (refine Ql ?_;intro K G)
 refine⟨qj (J.o.al _),G _ _ ?_⟩;clear G K
 iterate 2 (refine qD rfl rfl (qj (J.o.al _)) ?_;intro K G;go_big_quiet_op;go_big_quiet_on)
 refine qv ?_;go_wp2;refine bodyPost_ret (v:= .tuple #[γ w6.heap.size,ι 0]) (by simp[results,results88,go_sem]) rfl ?_;obtain⟨W7,ac⟩:=ν (w6.alloc (.cells #[δ none 0 0,γ (w.heap.size+1+1),γ (w1.heap.size+1),γ (w2.heap.size+1),false,ι 0,ι 0,ω H,φ sq,ω st,false,ω 0,ω 0,ι d,ι 0,false] 153));have ao:W7.heap[w6.heap.size]? =some (.cells (jO ⟨w6.heap.size,w.heap.size+1+1,w.heap.size+1,w1.heap.size+1,w1.heap.size,w2.heap.size+1,w2.heap.size⟩ (δ none 0 0) (Yp n d H sq st)) 153 (0,0)):=by rw[<-ac];exact qk w6 _
 have U:qa w6 W7:=by rw[<-ac];exact qa.alloc _ _
 have aV:w6.heap.size<W7.heap.size:=ql ao;rw[ac];clear ac;have N:qa ae w6:=(aS.o.trans ay.o).trans J.o;have aX:=ql ap.o.ring;have aY:=ql aq.o.ring;have z3:=ql ar.o.ring;have aW:=N.size;have aF:=(ap.o.more ((ax.o.trans af.o).trans (N.trans U)));have aG:=(aq.o.more (af.o.trans (N.trans U)));have aH:=(ar.o.more (N.trans U));refine⟨_,rfl,⟨⟨w6.heap.size,w.heap.size+1+1,w.heap.size+1,w1.heap.size+1,w1.heap.size,w2.heap.size+1,w2.heap.size⟩,δ none 0 0,rfl, ?_⟩,((aR.o.trans ax.o).trans af.o).trans (N.trans U)⟩;refine⟨λb ai=>ai.2,λb ai=> ?_,by simp only;omega,ao,⟨_,_,_,_,_,_,_,aF,trivial⟩,⟨_,_,_,_,_,_,_,aG,trivial⟩,⟨_,_,_,_,_,_,_,aH,trivial⟩,qV.nil 2 ROu _ W7 0 _,aO.o⟩;rcases ai with e | (e | e) | (e | e) | (e | e)<;>(simp only at e;subst e;constructor<;>omega)
theorem QZ {P:Program} {C:World->Prop} {l:List Oper} {T:Nat} {Q:Act->World->Prop} {k:Nat} {o:Oper} {t:Tr} {a:Act} {w:World} (Y:l[k]? =some o) (H:Region.wanted o (yielded l.toArray a.tmps)=true) (J:C w)
  (d:TypeId) (x:Operand) (aa:o.op= .load d x) (b I:Nat) (ac:a.eval x= π (some ⟨b,I,none⟩)) (cs:List Value) (G:TypeDesc) (O: ∀w,C w->w.rangeAt b I cs)
  (ab:P.underlying d=some G) (U:G.isRow=true) (hi:(P.info? d).map (·.size)=some cs.length)
  (h: ∀K:Act->Prop,(∀a,zh P l.toArray T C Q t a w->K a)->K (a.put o.dst (θ cs.toArray))):zh P l.toArray T C Q (.op k false t) a w:=
 qE Y H J λK N=>⟨θ cs.toArray,λw H=>by
  unfold Oper.quietAt execOp;simp only[aa,ac,Instr.loadAt,Instr.sureAddr,Sem.run_bind,Sem.run_pure,Result.andThen_ok,run_loadVar_mid w b I d cs G (O w H) ab U hi]
  exact⟨rfl,rfl⟩,h K N⟩
theorem Bl (c t n:Int) (k:Bool) (w:World):Calls prog 198 #[θ #[ι c,ι t],ι n,k] w λe w'=>e= .returned (.tuple #[θ #[ι (xK c t n k).1,ι t],ι (xK c t n k).2.1,μ (xK c t n k).2.2])/\qa w w':=by
 by_cases h1:n=c
 ·have e:xK c t n k=(c,0,false):=by unfold xK;rw[if_pos h1]
  rw[e];exact Ux c t n k (by simp[h1]) (by simp[h1]) w
 ·by_cases h2:n=t
  ·cases k with
   | true=>
    have e:xK c t n true=(n,0,true):=by unfold xK;rw[if_neg h1,if_pos h2,if_pos rfl]
    rw[e];exact Uy c t n true (by simp[h1]) (by simp[h2]) rfl w
   | false=>
    have e:xK c t n false=(c,5,false):=by unfold xK;rw[if_neg h1,if_pos h2,if_neg ζ]
    rw[e];exact Ki c t n false (by simp[h1]) (by simp[h1]) (by simp[h2]) rfl w
  ·have e:xK c t n k=(c,4,false):=by unfold xK;rw[if_neg h1,if_neg h2]
   rw[e];exact Bj c t n k (by simp[h1]) (by simp[h1]) (by simp[h2]) w
section
variable {N:Nat->Prop} {w w':World} {k:LnB} {vo:Value} {s s':LnS}
theorem Vc (h:LnX N w k vo s) (G:zp s 1=false):Calls prog 137 #[γ k.L] w λe w'=>e= .returned (.tuple #[ι 0,ι 0,false])/\qa w w':=by
 have d:=YL h;rw[G] at d;have d:=κ d;clear G h
 go_enter func137,ntmps137
 go_wp2_with (go_at_call 74;(go_call d.o as e w1 ⟨rfl,H⟩;have I:=κ H;clear H))
 refine bodyPost_ret (v:= .tuple #[ι 0,ι 0,false]) (by simp[results,results137,go_sem]) rfl ?_;exact⟨rfl,I.o⟩
theorem Zs (h:LnX N w k vo s) (be:zp s 1=true) (x:ItS) (T:List ItS) (bQ:s.A=x::T) (ae f:Int) (ao:Bool) (bw:xK s.cur s.tgt x.layer x.key=(ae,f,ao)) (z:Bool) (cn:(f==0)=z):
  Calls prog 137 #[γ k.L] w λe w'=>e= .returned (.tuple #[ι x.id,ι f,true])/\LnX (xd N w w') w' k vo {s with A:=T,cur:=ae,B:=if z then s.B++[(x,ao)] else s.B}/\qg N w w':=by
 have H:=κ h;have aC:=YL h;rw[be] at aC;have aC:=κ aC;have av:=Bl s.cur s.tgt x.layer x.key;rw[bw] at av;have av:=κ av;have cj:s.B.length<s.room:=by
  have:=h.r2.fit.1;have bP:(decide (0<s.A.length)&&decide (¬s.B.length=s.room))=true:=be;simp at bP;omega
 obtain⟨ax,co,aW,bK,aU,aV,bL,bd,aT⟩:=h.r1;rw[bQ] at aT;obtain⟨c,q,rfl,aE,bo⟩:=aT.uncons;have AQ:=κ bo;obtain⟨cq,cp,vp,rfl,⟨⟨os,ai,rfl,_⟩,⟨aj,ke,rfl,_⟩,⟨ak,ah,rfl,_⟩⟩,_,_⟩:=aE.read;unfold itC at aE bd;have bC:=κ aE;have bF:=κ bd;have ad:=κ h.dist;clear h be bw bd aE bo aT
 go_enter func137,ntmps137
 go_wp2_with (first | (go_at_call 74;(go_call aC.o as e w1 ⟨rfl,az⟩;have bH:=κ az;have bh:=κ (qc az H.o.blk);have cu:Hid (w.heap.size<=w1.heap.size):=κ az.size;have bE:=κ (bF.o.more az);clear az;have c1:w1.cell? ⟨k.L,1,none⟩=some (π (some ⟨k.R1,0,none⟩)):=qb bh.o 1 rfl)) | (go_at_call 197;(go_call NV w1 k.R1 k.A1 s.room ax _ q aW bK aU aV bL bE.o as e w2 ⟨rfl,⟨aX,ag⟩,af⟩;have bk:=κ ag;have A2:Hid (qg (RgB k.R1 k.A1) w w2):=κ ((qg.of_more bH.o).trans af);have bi:Hid (w2.heap[k.L]? =some (.cells (jO k vo s) 153 (0,0))):=κ (af.blk bh.o (by obtain⟨⟨Y,ac,_⟩,_⟩:=ad.o;rintro(e | e)<;>omega));clear ag af)))
 obtain⟨J,aL⟩:=ν ((w2.alloc (.cells (Γj x os ai aj ke ak ah) 253)));have aw:Hid (qa w2 J):=κ (by rw[<-aL];exact qa.alloc _ _);have aQ:Hid (J.heap[w2.heap.size]? =some (.cells (Γj x os ai aj ke ak ah) 253 (0,0))):=κ (by rw[<-aL];exact qk w2 _);have aO:=κ (qc aw.o bi.o);rw[aL];clear aL
 go_cut [7,8,9] from 21 (λcb cc cd bA=> ∃C,cb= γ C/\cc= ι f/\cd= μ ao/\qa J bA/\bA.heap[C]? =some (.cells #[ι ae,ι s.tgt] 103 (0,0))/\J.heap.size<=C)
 case first=>
  have bG: ∀x:qp J,x.w'.rangeAt k.L 5 [ι s.cur,ι s.tgt]:=λx j v O=>by
   have d:=qc x.h aO.o
   match j,O with
   | 0,O=>exact qb d 5 O
   | 1,O=>exact qb d 6 O
  have ce: ∀y:qp J,y.w'.cell? ⟨w2.heap.size,1,none⟩=some (ι x.layer):=λy=>qb (qc y.h aQ.o) 1 rfl
  have bm: ∀y:qp J,y.w'.cell? ⟨w2.heap.size,2,none⟩=some (μ x.key):=λy=>qb (qc y.h aQ.o) 2 rfl
  refine zC J 17 (.op 0 false (.op 1 false (.op 2 false (.op 3 false (.op 4 false (.op 5 false (.op 6 false (.op 7 false (.br [8,13] λk=>if k=8 then .op 9 false (.op 10 false (.op 11 false (.op 12 false (.op 13 true (.op 14 true (.op 15 false (.op 16 false (.done)))))))) else .op 8 true (.op 9 false (.op 10 false (.op 11 false (.op 12 false (.op 14 true (.op 15 false (.op 16 false (.done))))))))))))))))) ξ ξ ?_
  iterate 3 (refine qE rfl rfl (qj ρ) ?_;intro K G;go_big_quiet_op;go_big_quiet_on)
  refine QZ rfl rfl (qj ρ) 103 (.tmp 24) rfl k.L 5 rfl [ι s.cur,ι s.tgt] _ (λw' bf=>by obtain⟨y,rfl⟩:=bf;exact bG y) underlying103 rfl ξ ?_;intro K G;go_simp;refine G _ ?_;clear G K
  repeat (first | (refine jd rfl rfl (qj ρ) ?_) | (refine qE rfl rfl (qj ρ) ?_;intro K G;go_big_quiet_op;go_big_quiet_on))
  refine wR ζ ?_ ?_
  ·(refine qP rfl rfl ?_;intro K G;unfold jl;go_simp)
   go_call av.o _ as e w5 ⟨rfl,ap⟩;have I:Hid (qa J w5):=κ ((qa.drewN _ 1).trans ap);clear ap;refine⟨_,rfl,qj I.o,G _ _ ?_⟩;clear G K
   repeat (first | (refine jd rfl rfl (qj I.o) ?_) | (refine qE rfl rfl (qj I.o) ?_;intro K G;go_big_quiet_op;go_big_quiet_on))
   (refine qP rfl rfl ?_;intro K G;unfold jl;go_simp)
   refine⟨qj (I.o.al _),G _ _ ?_⟩;clear G K
   (refine qP rfl rfl ?_;intro K G;unfold jl;go_simp)
   refine⟨qj (by repeat (first | exact I.o.al _ | refine qa.st ?_ (by have:=I.o.size;simp;omega) _)),G _ _ ?_⟩;clear G K
   repeat (first | (refine jd rfl rfl (qj (by repeat (first | exact I.o.al _ | refine qa.st ?_ (by have:=I.o.size;simp;omega) _))) ?_) | (refine qE rfl rfl (qj (by repeat (first | exact I.o.al _ | refine qa.st ?_ (by have:=I.o.size;simp;omega) _))) ?_;intro K G;go_big_quiet_op;go_big_quiet_on))
   refine ze ?_;go_wp2;go_meet;exact⟨_,rfl,rfl,rfl,I.o.al _,qk w5 _,I.o.size⟩
  ·(refine qP rfl rfl ?_;intro K G;unfold jl;go_simp)
   refine⟨qj ρ,G _ _ ?_⟩;clear G K
   (refine qP rfl rfl ?_;intro K G;unfold jl;go_simp)
   go_call av.o _ as e w5 ⟨rfl,ap⟩;have I:Hid (qa J w5):=κ (((qa.drewN _ 1).al _).trans ap);have au:Hid (w5.heap[J.heap.size]? =some (.cells #[ι 0,ι 0] 103 (0,0))):=κ (qc ap (qB rfl));clear ap;have bM:w5.cell? ⟨J.heap.size,0,none⟩=some (ι 0):=qb au.o 0 rfl;have Y:w5.cell? ⟨J.heap.size,1,none⟩=some (ι 0):=qb au.o 1 rfl;have e0:w5.frozen? ⟨J.heap.size,0,none⟩=false:=qd au.o 0;have aH:w5.frozen? ⟨J.heap.size,1,none⟩=false:=qd au.o 1;refine⟨_,rfl,qj I.o,G _ _ ?_⟩;clear G K
   repeat (first | (refine jd rfl rfl (qj I.o) ?_) | (refine qE rfl rfl (qj I.o) ?_;intro K G;go_big_quiet_op;go_big_quiet_on))
   (refine qP rfl rfl ?_;intro K G;unfold jl;go_simp)
   refine⟨qj ((I.o.st (Nat.le_refl _) _).st (Nat.le_refl _) _),G _ _ ?_⟩;clear G K
   repeat (first | (refine jd rfl rfl (qj ((I.o.st (Nat.le_refl _) _).st (Nat.le_refl _) _)) ?_) | (refine qE rfl rfl (qj ((I.o.st (Nat.le_refl _) _).st (Nat.le_refl _) _)) ?_;intro K G;go_big_quiet_op;go_big_quiet_on))
   refine ze ?_;go_wp2;go_meet;exact⟨_,rfl,rfl,rfl,(I.o.st (Nat.le_refl _) _).st (Nat.le_refl _) _,qA (qo (qo au.o 0 _) 1 _) rfl,Nat.le_refl _⟩
 case rest=>
 obtain⟨C,rfl,rfl,rfl,aN,bu,ck⟩:=hcut;have aD:=κ aN;have bj:=κ bu;have an:=κ (qc aN aO.o);have aS:=κ (qc aN aQ.o);clear aN bu;have cl:k.L<C:=by have:=ql aO.o;omega
 have bM:wc.cell? ⟨C,0,none⟩=some (ι ae):=qb bj.o 0 rfl;have Y:wc.cell? ⟨C,1,none⟩=some (ι s.tgt):=qb bj.o 1 rfl;have c5:wc.cell? ⟨k.L,5,none⟩=some (ι s.cur):=qb an.o 5 rfl;have cf:wc.cell? ⟨k.L,6,none⟩=some (ι s.tgt):=qb an.o 6 rfl;have aI:wc.frozen? ⟨k.L,5,none⟩=false:=qd an.o 5;have ch:wc.frozen? ⟨k.L,6,none⟩=false:=qd an.o 6;have cr:wc.cell? ⟨w2.heap.size,0,none⟩=some (ι x.id):=qb aS.o 0 rfl;have aM: ¬w2.heap.size=k.L:=by have:=ql bi.o;omega
 cases z
 ·go_wp2;refine bodyPost_ret (v:= .tuple #[ι x.id,ι f,true]) (by simp[results,results137,go_sem]) rfl ?_;obtain⟨W6,U⟩:=ν ((wc.setCell ⟨k.L,5,none⟩ (ι ae)).setCell ⟨k.L,6,none⟩ (ι s.tgt));have aA:Hid (qg (λb=>b=k.L∨RgB k.R1 k.A1 b) w W6):=κ (by rw[<-U];exact((((A2.o.mono (S':=λb=>b=k.L∨RgB k.R1 k.A1 b) λb d=>Or.inr d).more (aw.o.trans aD.o)).set (p:=⟨k.L,5,none⟩) (Or.inl rfl) _).set (p:=⟨k.L,6,none⟩) (Or.inl rfl) _));have aB:Hid (W6.heap[k.L]? =some (.cells (jO k vo {s with A:=T,cur:=ae}) 153 (0,0))):=κ (by rw[<-U];exact qA (qo (qo an.o 5 _) 6 _) rfl);have aR:Hid (W6.heap[w2.heap.size]? =some (.cells (Γj x os ai aj ke ak ah) 253 (0,0))):=κ (by rw[<-U];exact qm (qm aS.o ⟨k.L,5,none⟩ _ aM) ⟨k.L,6,none⟩ _ aM)
  have aP:Hid (qO 13 327 253 W6 k.R1 k.A1 s.room ((ax+1)%s.room) q aW _ aU aV _):=κ (by
   obtain⟨⟨Y,ac,_⟩,_⟩:=ad.o;rw[<-U]
   exact((bk.o.more (aw.o.trans aD.o)).away (S:=λb=>b=k.L) (((qg.refl (λb=>b=k.L) wc).set (p:=⟨k.L,5,none⟩) rfl _).set (p:=⟨k.L,6,none⟩) rfl _) (Ne.symm Y) (Ne.symm ac)))
  rw[U];clear U;have am:qg (λb=>b=k.L∨RgB k.R1 k.A1 b) w W6:=aA.o;obtain⟨⟨Y,ac,aF,aG,aY,aZ⟩,⟨aH,ba,bb,bc,aI⟩,⟨bS,bT,bU,bV⟩,⟨bW,bX,bY⟩,⟨bZ,ca⟩,_⟩:=ad.o;have ab:qg k.muts w W6:=am.mono λb d=>by rcases d with e | e;exact Or.inl e;exact Or.inr (Or.inl e)
  have ar:qg (lnM k vo) w W6:=ab.mono λb d=>Or.inl d
  have O: ∀b,vo.ownBlock=some b->vo.ownBlock=some b∨w.heap.size<=b:=λb d=>Or.inl d
  have aK: ∀b,(λb=>b=k.L∨RgB k.R1 k.A1 b) b->lnE N k vo b:=λb d=>uf (by rcases d with e | e;exact Or.inl e;exact Or.inr (Or.inl e))
  have aa:=H.o.ok;exact⟨rfl,H.o.make ab.size aB.o ⟨_,_,_,_,_,_,_,aP.o,AQ.o.mono λc y ay=>H.o.held ay ar O⟩ (H.o.r2.step am (by rintro(e | e | e)<;>omega) (by rintro(e | e | e)<;>omega) aK λb d=>Or.inl (xD H.o.own O d)) (H.o.r3.step am (by rintro(e | e | e)<;>omega) (by rintro(e | e | e)<;>omega) aK λb d=>Or.inl (xD H.o.own O d)) (H.o.rows ab) ⟨aa.most,aa.row,aa.lt,aa.sq,aa.src⟩,ab.mono λb d=>H.o.muts b d⟩
 ·go_wp2;obtain⟨W6,U⟩:=ν ((wc.setCell ⟨k.L,5,none⟩ (ι ae)).setCell ⟨k.L,6,none⟩ (ι s.tgt));have aA:Hid (qg (λb=>b=k.L∨RgB k.R1 k.A1 b) w W6):=κ (by rw[<-U];exact((((A2.o.mono (S':=λb=>b=k.L∨RgB k.R1 k.A1 b) λb d=>Or.inr d).more (aw.o.trans aD.o)).set (p:=⟨k.L,5,none⟩) (Or.inl rfl) _).set (p:=⟨k.L,6,none⟩) (Or.inl rfl) _));have aB:Hid (W6.heap[k.L]? =some (.cells (jO k vo {s with A:=T,cur:=ae,B:=s.B++[(x,ao)]}) 153 (0,0))):=κ (by rw[<-U];exact qA (qo (qo an.o 5 _) 6 _) rfl);have aR:Hid (W6.heap[w2.heap.size]? =some (.cells (Γj x os ai aj ke ak ah) 253 (0,0))):=κ (by rw[<-U];exact qm (qm aS.o ⟨k.L,5,none⟩ _ aM) ⟨k.L,6,none⟩ _ aM)
  have aP:Hid (qO 13 327 253 W6 k.R1 k.A1 s.room ((ax+1)%s.room) q aW _ aU aV _):=κ (by
   obtain⟨⟨Y,ac,_⟩,_⟩:=ad.o;rw[<-U]
   exact((bk.o.more (aw.o.trans aD.o)).away (S:=λb=>b=k.L) (((qg.refl (λb=>b=k.L) wc).set (p:=⟨k.L,5,none⟩) rfl _).set (p:=⟨k.L,6,none⟩) rfl _) (Ne.symm Y) (Ne.symm ac)))
  rw[U];clear U;obtain⟨aJ,bg,bs,aX,bp,bq,bt,ag,af⟩:=H.o.r2;have bB:=κ af;have bR:bg.length<s.room:=by have:=af.len;omega
  have R2:Hid (qO 14 330 255 W6 k.R2 k.A2 s.room aJ bg bs aX bp bq bt):=κ (ag.away aA.o (by obtain⟨⟨Y,ac,aF,aG,aY,aZ⟩,⟨aH,ba,bb,bc,aI⟩,⟨ax,aJ,bN,bO⟩,_⟩:=ad.o;rintro(e | e | e)<;>omega) (by obtain⟨⟨Y,ac,aF,aG,aY,aZ⟩,⟨aH,ba,bb,bc,aI⟩,⟨ax,aJ,bN,bO⟩,_⟩:=ad.o;rintro(e | e | e)<;>omega));have cm:k.R2<w.heap.size:=ql ag.ring;have ci:k.A2<w.heap.size:=ql ag.row;have cv:w.heap.size<=w2.heap.size:=A2.o.size;clear ag af;have bx: ¬RgB k.R2 k.A2 k.L:=by
   obtain⟨⟨Y,ac,aF,aG,_⟩,_⟩:=ad.o;rintro(e | e)<;>omega
  have bz: ¬RgB k.R2 k.A2 w2.heap.size:=by rintro(e | e)<;>omega
  have bm: ∀y:qu (RgB k.R2 k.A2) W6,y.w'.cell? ⟨k.L,2,none⟩=some (π (some ⟨k.R2,0,none⟩)):=λy=>qb (y.h.blk aB.o bx) 2 rfl
  have bl: ∀y:qu (RgB k.R2 k.A2) W6,y.w'.rangeAt w2.heap.size 0 (Γj x os ai aj ke ak ah):=λy=>xw (y.h.blk aR.o bz)
  refine QN (RgB k.R2 k.A2) W6 8 8 [7] ?_
  refine Qs4 ?_
  refine je rfl rfl (qi σ) 253 (.tmp 5) rfl w2.heap.size 0 rfl (Γj x os ai aj ke ak ah) _ (λw' bf=>by obtain⟨y,rfl⟩:=bf;exact bl y) underlying253 rfl ξ ?_;intro K G;go_simp;refine G _ ?_;clear G K
  refine Qs2 ?_
  (refine Ql ?_;intro K G)
  go_call UP _ k.R2 k.A2 s.room aJ bg bs aX bp bq bt (R2.o.more (qa.drewN W6 1)) bR (Γk x os ai aj ke ak ah ao) ⟨rfl,by simp[Value.oneCell']⟩ as e w8 ⟨rfl,⟨cg,bv⟩,bn⟩;have bI:=κ bv;have aq:Hid (qg (RgB k.R2 k.A2) W6 w8):=κ (((qg.refl _ W6).drewN 1).trans bn);clear bv bn;refine⟨_,rfl,qi aq.o,G _ _ ?_⟩;clear G K bm bl;refine qv ?_;have bD:=κ (aq.o.blk aB.o bx);have bJ:=κ (aq.o.blk aR.o bz);have ct:w8.cell? ⟨w2.heap.size,0,none⟩=some (ι x.id):=qb bJ.o 0 rfl;go_wp2;refine bodyPost_ret (v:= .tuple #[ι x.id,ι f,true]) (by simp[results,results137,go_sem]) rfl ?_;have am:qg (λb=>b=k.L∨RgB k.R1 k.A1 b∨RgB k.R2 k.A2 b) w w8:=(aA.o.mono λb d=>by rcases d with e | e;exact Or.inl e;exact Or.inr (Or.inl e)).trans (aq.o.mono λb d=>Or.inr (Or.inr d));obtain⟨⟨Y,ac,aF,aG,aY,aZ⟩,⟨aH,ba,bb,bc,aI⟩,⟨bS,bT,bU,bV⟩,⟨bW,bX,bY⟩,⟨bZ,ca⟩,_⟩:=ad.o;have ab:qg k.muts w w8:=am.mono λb d=>by rcases d with e | e | e;exact Or.inl e;exact Or.inr (Or.inl e);exact Or.inr (Or.inr (Or.inl e))
  have ar:qg (lnM k vo) w w8:=ab.mono λb d=>Or.inl d
  have O: ∀b,vo.ownBlock=some b->vo.ownBlock=some b∨w.heap.size<=b:=λb d=>Or.inl d
  have aK: ∀b,(λb=>b=k.L∨RgB k.R1 k.A1 b∨RgB k.R2 k.A2 b) b->lnE N k vo b:=λb d=>uf (by rcases d with e | e | e;exact Or.inl e;exact Or.inr (Or.inl e);exact Or.inr (Or.inr (Or.inl e)))
  have aa:=H.o.ok;exact⟨rfl,H.o.make ab.size bD.o ⟨_,_,_,_,_,_,_,aP.o.away aq.o (by rintro(e | e)<;>omega) (by rintro(e | e)<;>omega),AQ.o.mono λc y ay=>H.o.held ay ar O⟩ ⟨_,_,_,_,_,_,_,bI.o,(bB.o.mono λc y ay=>H.o.held ay ar O).snoc (H.o.held (jp.chosen ao bC.o) ar O)⟩ (H.o.r3.step am (by rintro(e | (e | e) | (e | e))<;>omega) (by rintro(e | (e | e) | (e | e))<;>omega) aK λb d=>Or.inl (xD H.o.own O d)) (H.o.rows ab) ⟨aa.most,aa.row,aa.lt,aa.sq,aa.src⟩,ab.mono λb d=>H.o.muts b d⟩
theorem Dr (h:LnX N w k vo s):Calls prog 137 #[γ k.L] w λe w'=>e= .returned (.tuple #[ι (qN s).2.1,ι (qN s).2.2.1,μ (qN s).2.2.2])/\LnX (xd N w w') w' k vo (qN s).1/\qg N w w':=by
 cases hm:zp s 1 with
 | false=>
  have e:qN s=(s,0,0,false):=by unfold qN;rw[if_pos hm]
  rw[e];refine(Vc h hm).mono ?_;rintro e w' ⟨rfl,m⟩;exact⟨rfl,h.grow m,qg.of_more m⟩
 | true=>
  cases hA:s.A with
  | nil=>
   have:(decide (0<s.A.length)&&decide (¬s.B.length=s.room))=true:=hm;rw[hA] at this;simp at this
  | cons x T=>
   have e:qN s=({s with A:=T,cur:=(xK s.cur s.tgt x.layer x.key).1,B:=if (xK s.cur s.tgt x.layer x.key).2.1=0 then s.B++[(x,(xK s.cur s.tgt x.layer x.key).2.2)] else s.B},x.id,(xK s.cur s.tgt x.layer x.key).2.1,true):=by
    unfold qN;rw[if_neg (by rw[hm];decide),hA]
   rw[e];rcases ht:xK s.cur s.tgt x.layer x.key with ⟨d,f,G⟩
   simp only;have:=Zs h hm x T hA d f G ht (f==0) rfl
   simpa using this
end
theorem JI (n s:Int):Byt (qx n s):=by
 unfold qx;split
 ·exact JP _ _
 ·exact xf
theorem La (l:List Int):Byt (ssB l):=by
 induction l with
 | nil=>exact xf
 | cons x l ih=>exact yd (JI _ _) ih
theorem Fw {p:Pk} (h:wP p):Byt (DQ p):=by
 unfold DQ EB Ix;refine yd (yd (yd (yd (yd (yd ?_ ?_) ?_) ?_) ?_) (La _)) ?_
 all_goals try exact JI _ _
 split
 ·exact yd (yd (JI _ _) (JI _ _)) h.ex
 ·exact xf
theorem Lb {p:Pk} (h:wP p):Byt (pkB p):=yd (Fw h) h.pl
theorem qg.setNew {S:Nat->Prop} {a b:World} (h:qg S a b) {p:Addr} (H:a.heap.size<=p.block) (v:Value):qg S a (b.setCell p v):=
 ⟨h.os,h.tape,h.output,by simpa [World.setCell] using h.size,λk d G=>by rw[Below.heap_setCell _ _ _ _ (λe=>by omega)];exact h.block k d G⟩
theorem Vm {w:World} {base e size n b:Nat} {v:Value} {xs:List Value} (h:w.ownsRow base e size v n xs) (d:v.ownBlock=some b):b<w.heap.size:=by
 rcases h.2 with ⟨rfl,_⟩ | ⟨g,cap,cur,rfl,_,G,_⟩
 ·cases d
 ·obtain rfl:g=b:=by injection d
  exact lt_of_block G
def vH (room:Nat) (q:List (List Value)) (x:List Value):List (List Value):=if q.length<room then q++[x] else q.tail++[x]
theorem Pu (ae:World) (R A room f:Nat) (q:List (List Value)) (N I J H:Int) (css:List (List Value)) (ab:qO 2 332 56 ae R A room f q N I J H css)
  (ad: ∀c∈q,∃i G n d,c=[ι i,δ G n d]) (x:List Value) (ac:x.length=2/\ ∀u∈x,u.oneCell'=true):
  ∃old G n d,(old=if q.length<room then 0 else (q.head?.map idN).getD 0)/\
  ∀w,qO 2 332 56 w R A room f q N I J H css->Calls prog 202 #[γ R,θ x.toArray] w λe w'=>e= .returned (.tuple #[θ #[ι old,δ G n d],(decide (¬q.length<room)),ι 0])/\
   (∃f' O aa css',qO 2 332 56 w' R A room f' (vH room q x) O I aa H css')/\qg (RgB R A) w w':=by
 by_cases hq:q.length<room
 ·refine⟨0,none,0,0,by rw[if_pos hq],λw h=> ?_⟩;have U:decide (¬q.length<room)=false:=by simp[hq]
  have Y:vH room q x=q++[x]:=by unfold vH;rw[if_pos hq]
  rw[U,Y];refine(UL w R A room f q N I J H css h hq x ac).mono ?_;rintro e w' ⟨rfl,⟨O,g⟩,a⟩;exact⟨rfl,⟨_,_,_,_,g⟩,a⟩
 ·have af:=ab.fits;have ag:=ab.pos;cases q with
  | nil=>simp at hq;omega
  | cons c T=>
   obtain⟨i,G,n,d,rfl⟩:=ad c η;refine⟨i,G,n,d,by rw[if_neg hq];rfl,λw h=> ?_⟩;have U:decide (¬([ι i,δ G n d]::T).length<room)=true:=by simpa using hq
   have Y:vH room ([ι i,δ G n d]::T) x=T++[x]:=by unfold vH;rw[if_neg hq];rfl
   rw[U,Y];refine(UM w R A room f [ι i,δ G n d] T N I J H css h τ x ac).mono ?_;rintro e w' ⟨rfl,⟨O,aa,g⟩,a⟩;exact⟨rfl,⟨_,_,_,_,g⟩,a⟩
theorem zq.tl {α β:Type} {p:α->β->Prop} {l:List α} {m:List β} (h:zq p l m):zq p l.tail m.tail:=by
 cases l with
 | nil=>cases m with
  | nil=>exact trivial
  | cons b m=>exact h.elim
 | cons a l=>cases m with
  | nil=>exact h.elim
  | cons b m=>exact h.2
theorem Am {α:Type} {R:qJ α} {D:Nat->Prop} {w:World} {room:Nat} {q:List (List Value)} {l:List α} {c:List Value} {y:α} (a:zq (jp R D w) q l) (h:jp R D w c y):
  zq (jp R D w) (vH room q c) (if l.length<room then l++[y] else l.tail++[y]):=by
 unfold vH;rw[a.len];split
 ·exact a.snoc h
 ·exact a.tl.snoc h
section
variable {N:Nat->Prop} {w w':World} {k:LnB} {vo vo':Value} {s s':LnS}
theorem LnX.fresh (h:LnX N w k vo s) {G:IntKind} {v:Value} {l:List Int} (O:SlI G w' v l) (J: ∀b,v.ownBlock=some b->w.heap.size<=b/\b<w'.heap.size) (U: ∀b,vo'.ownBlock=some b->vo.ownBlock=some b) {w'':World} (a:qg (lnE (xd N w w') k vo') w' w''):SlI G w'' v l:=by
 refine O.off (λb e d=> ?_) a;obtain⟨H,I⟩:=J b e;rcases d with d | d
 ·have:=h.own b (h.muts b (d (Or.inr ⟨H,I⟩)));omega
 ·have:=h.own b (h.vob (U b d)).1;omega
theorem UU {D:Nat->Prop} {q:List (List Value)} {l:List (Int×List Int)} (a:zq (jp ROu D w) q l): ∀c∈q,∃i G n d,c=[ι i,δ G n d]:=λc H=>by
 obtain⟨o,_,I⟩:=a.mem c H;obtain⟨v,rfl,⟨G,d,rfl,_⟩,_⟩:=I.read;exact⟨_,_,_,_,rfl⟩
theorem Pz {D:Nat->Prop} {q:List (List Value)} {l:List (Int×List Int)} (a:zq (jp ROu D w) q l):(q.head?.map idN).getD 0=(l.head?.map (·.1)).getD 0:=by
 cases l with
 | nil=>rw[a.nil_r];rfl
 | cons o l=>
  obtain⟨c,q',rfl,d,_⟩:=a.uncons;obtain⟨v,rfl,_⟩:=d.read;rfl
end
section
variable {N:Nat->Prop} {w w':World} {k:LnB} {vo:Value} {s s':LnS}
theorem PR {t:TypeId} (h:w.heap[k.L]? =some (.cells (jO k vo s) t (0,0))):w.rangeAt k.L 7 [ω s.rw.src,φ s.rw.sq,ω s.rw.st,s.rw.any,ω s.rw.last,ω s.rw.shift]:=λj v d=>by
 match j,d with
 | 0,d=>exact qb h 7 d
 | 1,d=>exact qb h 8 d
 | 2,d=>exact qb h 9 d
 | 3,d=>exact qb h 10 d
 | 4,d=>exact qb h 11 d
 | 5,d=>exact qb h 12 d
theorem Zq {P:Program} {C:World->Prop} {o:Oper} {a:Act} {w:World} {K:Act->World->Prop} (d:TypeId) (x:Operand) (N:o.op= .load d x) (b H:Nat) (U:a.eval x= π (some ⟨b,H,none⟩)) (cs:List Value) (G:TypeDesc) (I:w.rangeAt b H cs)
  (O:P.underlying d=some G) (J:G.isRow=true) (hi:(P.info? d).map (·.size)=some cs.length) (h:C w/\K (a.put o.dst (θ cs.toArray)) w):jl P C o a w K:=by
 unfold jl execOp;simp only[N,U,Instr.loadAt,Instr.sureAddr,Sem.run_bind,Sem.run_pure,Result.andThen_ok,run_loadVar_mid w b H d cs G I O J hi];exact h
theorem Zn (h:LnX N w k vo s) (G:zp s 2=false):Calls prog 138 #[γ k.L] w λe w'=>e= .returned (.tuple #[ι 0,false,false])/\qa w w':=by
 have d:=YK h;rw[G] at d;have d:=κ d;clear G h
 go_enter func138,ntmps138
 go_wp2_with (go_at_call 74;(go_call d.o as e w1 ⟨rfl,H⟩;have I:=κ H;clear H))
 refine bodyPost_ret (v:= .tuple #[ι 0,false,false]) (by simp[results,results138,go_sem]) rfl ?_;exact⟨rfl,I.o⟩
theorem XV (h:LnX N w k vo s) (x:ItS) (ad:Bool) (T:List (ItS×Bool)) (bY:s.B=(x,ad)::T) (X Z Q:Int) (ca:shL s.rw x.pk.st ad=X) (bm:(x.pk.st+X)%4294967296=Z) (bl:(s.rw.sq+1)%65536=Q):
  Calls prog 138 #[γ k.L] w λe w'=>e= .returned (.tuple #[ι (if s.C.length<s.room then 0 else (s.C.head?.map (·.1)).getD 0),(decide (¬s.C.length<s.room)),true])/\
   LnX (xd N w w') w' k vo {s with B:=T,rw:=⟨s.rw.src,Q,s.rw.st,true,Z,X⟩,C:=if s.C.length<s.room then s.C++[(x.id,pkB {x.pk with sq:=s.rw.sq,st:=Z,sc:=s.rw.src})] else s.C.tail++[(x.id,pkB {x.pk with sq:=s.rw.sq,st:=Z,sc:=s.rw.src})]}/\qg N w w':=by
 have Y:=κ h;have aF:=YK h;have cc:zp s 2=true:=by
  show decide (0<s.B.length)=true;rw[bY];simp
 rw[cc] at aF;have aF:=κ aF;have cJ:=κ (λ(mr:Bool) (ty q so:Int) (w:World)=>Bp s.rw.src s.rw.sq s.rw.st s.rw.last s.rw.shift s.rw.any ad mr ty q x.pk.st so w X ca Z bm Q bl);have cX:U32 Z:=by rw[<-bm];exact⟨τ,τ⟩
 have cW:U16 Q:=by rw[<-bl];exact⟨τ,τ⟩
 obtain⟨aN,dz,bQ,cO,bN,bP,cQ,ay,be⟩:=h.r2;rw[bY] at be;obtain⟨c,q,rfl,aI,bM⟩:=be.uncons;have AQ:=κ bM;obtain⟨dE,dC,vp,rfl,⟨⟨os,I,rfl,_⟩,⟨J,ke,rfl,_⟩,⟨O,H,rfl,_⟩⟩,aa,cj⟩:=aI.read;have aQ: ∀w',qg (lnE N k vo) w w'->PkS w' (δ os x.pk.ss.length I) (δ J x.pk.ex.length ke) (δ O x.pk.pl.length H) x.pk:=λw' a=>by
  obtain⟨dF,dD,vp',e,cf,_⟩:=aI w' a;simp[itC] at e;obtain⟨ax,aL,aM⟩:=e;rw[<-ax,<-aL,<-aM] at cf;exact cf
 have bn:wP {x.pk with sq:=s.rw.sq,st:=Z,sc:=s.rw.src}:=⟨aa.ty,h.ok.sq,cX,h.ok.src,aa.ss,aa.pr,aa.ex,aa.pl⟩;have bq:jM {x.pk with sq:=s.rw.sq,st:=Z,sc:=s.rw.src}=true:=cj;have cD:Hid (∀w',qg (lnE N k vo) w w'->Calls prog 37 #[θ #[μ x.pk.mr,υ x.pk.ty,φ s.rw.sq,ω Z,ω s.rw.src,δ os x.pk.ss.length I,x.pk.has,φ x.pk.pr,δ J x.pk.ex.length ke,δ O x.pk.pl.length H]] w' λe w''=>(∃v,e= .returned (.tuple #[v,ι 0])/\w''.ownsRow w'.heap.size 5 1 v (pkB {x.pk with sq:=s.rw.sq,st:=Z,sc:=s.rw.src}).length ((pkB {x.pk with sq:=s.rw.sq,st:=Z,sc:=s.rw.src}).map (Value.int .u8)))/\qa w' w''):=
  κ λw' a=>XT {x.pk with sq:=s.rw.sq,st:=Z,sc:=s.rw.src} _ _ _ w' ⟨(aQ w' a).s,(aQ w' a).e,(aQ w' a).l⟩ bn bq
 have aX:Hid ((pkB {x.pk with sq:=s.rw.sq,st:=Z,sc:=s.rw.src}).length<=200/\Byt (pkB {x.pk with sq:=s.rw.sq,st:=Z,sc:=s.rw.src})):=κ ⟨by
  have cT:=Fp {x.pk with sq:=s.rw.sq,st:=Z,sc:=s.rw.src};have cU:=((yu _).1 bq).2.2.2.2
  omega,Lb bn⟩
 clear aQ aa bn cj bq ca bm bl;generalize pkB {x.pk with sq:=s.rw.sq,st:=Z,sc:=s.rw.src}=body at *;obtain⟨dg,bs⟩:=ν ((if s.C.length<s.room then 0 else (s.C.head?.map (·.1)).getD 0));obtain⟨df,bp⟩:=ν (decide (¬s.C.length<s.room));obtain⟨dA,bo⟩:=ν ((if s.C.length<s.room then s.C++[(x.id,body)] else s.C.tail++[(x.id,body)]));rw[bs,bp,bo];have cI:=κ bs;have cH:=κ bp;have cG:=κ bo;clear bs bp bo;simp only[itC,List.cons_append,List.nil_append] at aI ay;have cz:=κ ay;have ds:k.R2<w.heap.size:=ql ay.ring;have dn:k.A2<w.heap.size:=ql ay.row;have ae:=κ h.dist;clear h cc ay aI bM be
 go_enter func138,ntmps138
 go_wp2_with (first | (go_at_call 74;(go_call aF.o as e w1 ⟨rfl,aA⟩;have cK:=κ aA;have bD:=κ (qc aA Y.o.blk);have dH:Hid (w.heap.size<=w1.heap.size):=κ aA.size;have cy:=κ (cz.o.more aA);clear aA;have c2:w1.cell? ⟨k.L,2,none⟩=some (π (some ⟨k.R2,0,none⟩)):=qb bD.o 2 rfl)) | (go_at_call 200;(go_call NW w1 k.R2 k.A2 s.room aN _ q bQ cO bN bP cQ cy.o as e w2 ⟨rfl,⟨cP,bW⟩,bf⟩;have cA:=κ bW;have A2:Hid (qg (RgB k.R2 k.A2) w w2):=κ ((qg.of_more cK.o).trans bf);have aS:Hid (w2.heap[k.L]? =some (.cells (jO k vo s) 153 (0,0))):=κ (bf.blk bD.o (by obtain⟨⟨ag,ao,ah,ai,_⟩,_⟩:=ae.o;rintro(e | e)<;>omega));clear bW bf)))
 obtain⟨ac,az⟩:=ν ((w2.alloc (.cells (Γk x os I J ke O H ad) 255)).alloc (.cells (Γh x.pk os I J ke O H) 63));have aZ:Hid (qa w2 ac):=κ (by rw[<-az];exact(qa.alloc _ _).al _);have bc:Hid (ac.heap[w2.heap.size]? =some (.cells (Γk x os I J ke O H ad) 255 (0,0))):=κ (by rw[<-az];exact qq (qk w2 _) _);have bb:Hid (ac.heap[w2.heap.size+1]? =some (.cells (Γh x.pk os I J ke O H) 63 (0,0))):=κ (by rw[<-az];exact qB η);have aT:=κ (qc aZ.o aS.o);rw[az];clear az;have cu: ¬w2.heap.size=k.L:=by have:=ql aS.o;omega
 have bu: ¬w2.heap.size+1=k.L:=by have:=ql aS.o;omega
 have bH: ∀y:qu (λb=>b=k.L) ac,y.w'.rangeAt (w2.heap.size+1) 0 [μ x.pk.mr,υ x.pk.ty,φ x.pk.sq,ω x.pk.st,ω x.pk.sc]:=λy=>by
  have:=xw (cs:=(Γh x.pk os I J ke O H)) (y.h.blk bb.o bu);intro j v aq;refine this j v ?_;have cY:=(List.getElem?_eq_some_iff.1 aq).1;rw[<-aq];exact List.getElem?_append_left (l₁:=[μ x.pk.mr,υ x.pk.ty,φ x.pk.sq,ω x.pk.st,ω x.pk.sc]) (l₂:=[δ os x.pk.ss.length I,x.pk.has,φ x.pk.pr,δ J x.pk.ex.length ke,δ O x.pk.pl.length H]) cY
 have cN: ∀y:qu (λb=>b=k.L) ac,y.w'.cell? ⟨w2.heap.size,13,none⟩=some (μ ad):=λy=>qb (y.h.blk bc.o cu) 13 rfl
 refine zo (λb=>b=k.L) ac 17 [(0,false),(1,false),(2,false),(3,false),(5,false),(6,false),(7,false),(8,false),(4,true),(9,true),(10,false),(11,false),(12,false),(13,false),(14,false),(15,true),(16,false),(17,true)] ξ ξ ?_
 refine Qs5 ?_
 refine je rfl rfl (qi σ) 60 (.tmp 33) rfl (w2.heap.size+1) 0 rfl [μ x.pk.mr,υ x.pk.ty,φ x.pk.sq,ω x.pk.st,ω x.pk.sc] _ (λw' dd=>by obtain⟨y,rfl⟩:=dd;exact bH y) underlying60 rfl ξ ?_;intro K d;go_simp;refine d _ ?_;clear d K
 refine Qs2 ?_
 refine jJ rfl rfl ?_;intro K d;refine Zq 149 (.tmp 31) rfl k.L 7 rfl [ω s.rw.src,φ s.rw.sq,ω s.rw.st,s.rw.any,ω s.rw.last,ω s.rw.shift] _ (PR (qn aT.o 1)) underlying149 rfl ξ ?_;refine⟨qi σ, ?_⟩;go_simp;refine d _ _ ?_;clear d K
 (refine Ql ?_;intro K d)
 go_call cJ.o _ _ _ _ _ as e w5 ⟨rfl,cq⟩;have af:Hid (qa ac w5):=κ ((qa.drewN _ 1).trans cq);clear cq;have aU:=κ (qc af.o aT.o);have bI:=κ (qc af.o bb.o);have bK:=κ (qc af.o bc.o);refine⟨_,rfl,qi (qg.of_more af.o),d _ _ ?_⟩;clear d K bH cN
 iterate 5 (refine qD rfl rfl (qi (qg.of_more af.o)) ?_;intro K d;go_big_quiet_op;go_big_quiet_on)
 refine jJ rfl rfl ?_;intro K d;refine zF 149 (.tmp 41) (.tmp 38) rfl k.L 7 153 _ [ω s.rw.src,φ Q,ω s.rw.st,true,ω Z,ω X] rfl rfl aU.o (by show 7+6<=16;decide) ξ (by simp[Value.oneCell']) ?_;have aj:Hid (qg (λb=>b=k.L) ac (w5.setRow k.L (xR (jO k vo s).toList 7 [ω s.rw.src,φ Q,ω s.rw.st,true,ω Z,ω X]).toArray)):=κ ((qg.of_more (S:=λb=>b=k.L) af.o).row (g:=k.L) rfl _);have aV:Hid ((w5.setRow k.L (xR (jO k vo s).toList 7 [ω s.rw.src,φ Q,ω s.rw.st,true,ω Z,ω X]).toArray).heap[k.L]? =some (.cells (jO k vo {s with rw:=⟨s.rw.src,Q,s.rw.st,true,Z,X⟩}) 153 (0,0))):=κ (qA (jT aU.o _) rfl);have aH:Hid ((w5.setRow k.L (xR (jO k vo s).toList 7 [ω s.rw.src,φ Q,ω s.rw.st,true,ω Z,ω X]).toArray).heap[w2.heap.size+1]? =some (.cells (Γh x.pk os I J ke O H) 63 (0,0))):=κ (qT bI.o _ bu);have bd:Hid ((w5.setRow k.L (xR (jO k vo s).toList 7 [ω s.rw.src,φ Q,ω s.rw.st,true,ω Z,ω X]).toArray).heap[w2.heap.size]? =some (.cells (Γk x os I J ke O H ad) 255 (0,0))):=κ (qT bK.o _ cu);obtain⟨w6,ck⟩:=ν (w5.setRow k.L (xR (jO k vo s).toList 7 [ω s.rw.src,φ Q,ω s.rw.st,true,ω Z,ω X]).toArray);rw[ck] at aj aV aH bd ⊢;clear ck aU bI bK af;refine⟨qi aj.o, ?_⟩;go_simp;refine d _ _ ?_;clear d K
 iterate 1 (refine qD rfl rfl (qi aj.o) ?_;intro K d;go_big_quiet_op;go_big_quiet_on)
 refine yc rfl rfl ζ ?_;intro K d;refine zF 60 (.tmp 42) (.tmp 39) rfl (w2.heap.size+1) 0 63 _ [μ x.pk.mr,υ x.pk.ty,φ s.rw.sq,ω Z,ω s.rw.src] rfl rfl aH.o (by show 0+5<=10;decide) ξ (by simp[Value.oneCell']) ?_;have au:Hid (qg (λb=>b=k.L∨RgB k.R2 k.A2 b) w (w6.setRow (w2.heap.size+1) (xR ((Γh x.pk os I J ke O H):Array Value).toList 0 [μ x.pk.mr,υ x.pk.ty,φ s.rw.sq,ω Z,ω s.rw.src]).toArray)):=κ ((((A2.o.mono λb G=>Or.inr G).more aZ.o).trans (aj.o.mono λb G=>Or.inl G)).rowNew (by have:=A2.o.size;omega) _);have bE:Hid ((w6.setRow (w2.heap.size+1) (xR ((Γh x.pk os I J ke O H):Array Value).toList 0 [μ x.pk.mr,υ x.pk.ty,φ s.rw.sq,ω Z,ω s.rw.src]).toArray).heap[k.L]? =some (.cells (jO k vo {s with rw:=⟨s.rw.src,Q,s.rw.st,true,Z,X⟩}) 153 (0,0))):=κ (qT aV.o _ (λe=>bu e.symm));have bJ:Hid ((w6.setRow (w2.heap.size+1) (xR ((Γh x.pk os I J ke O H):Array Value).toList 0 [μ x.pk.mr,υ x.pk.ty,φ s.rw.sq,ω Z,ω s.rw.src]).toArray).heap[w2.heap.size+1]? =some (.cells #[μ x.pk.mr,υ x.pk.ty,φ s.rw.sq,ω Z,ω s.rw.src,δ os x.pk.ss.length I,x.pk.has,φ x.pk.pr,δ J x.pk.ex.length ke,δ O x.pk.pl.length H] 63 (0,0))):=κ (qA (jT aH.o _) rfl);have bL:Hid ((w6.setRow (w2.heap.size+1) (xR ((Γh x.pk os I J ke O H):Array Value).toList 0 [μ x.pk.mr,υ x.pk.ty,φ s.rw.sq,ω Z,ω s.rw.src]).toArray).heap[w2.heap.size]? =some (.cells (Γk x os I J ke O H ad) 255 (0,0))):=κ (qT bd.o _ τ);have bG:Hid (qO 14 330 255 (w6.setRow (w2.heap.size+1) (xR ((Γh x.pk os I J ke O H):Array Value).toList 0 [μ x.pk.mr,υ x.pk.ty,φ s.rw.sq,ω Z,ω s.rw.src]).toArray) k.R2 k.A2 s.room ((aN+1)%s.room) q bQ cP bN bP _):=κ (((cA.o.more aZ.o).away aj.o (by obtain⟨⟨ag,ao,ah,ai,_⟩,_⟩:=ae.o;exact Ne.symm ah) (by obtain⟨⟨ag,ao,ah,ai,_⟩,_⟩:=ae.o;exact Ne.symm ai)).away (j9 _ _ _) (λe=>by have:=A2.o.size;omega) (λe=>by have:=A2.o.size;omega));obtain⟨W7,bZ⟩:=ν (w6.setRow (w2.heap.size+1) (xR ((Γh x.pk os I J ke O H):Array Value).toList 0 [μ x.pk.mr,υ x.pk.ty,φ s.rw.sq,ω Z,ω s.rw.src]).toArray);rw[bZ] at au bE bJ bL bG ⊢;clear bZ aj aV aH bd bb bc aT;refine⟨trivial, ?_⟩;go_simp;refine d _ _ ?_;clear d K;refine qv ?_;have cv:Hid (qg (lnE N k vo) w W7):=κ (au.o.mono λb G=>uf (by rcases G with e | e;exact Or.inl e;exact Or.inr (Or.inr (Or.inl e))))
 go_wp2_with (first | (refine yL (.load 63 (.tmp 7)) rfl ?_;refine vT rfl 63 (.tmp 7) rfl (w2.heap.size+1) 63 _ _ bJ.o rfl underlying63 rfl ξ ?_) | (go_at_call 37;(go_call cD.o _ cv.o as e w8 ⟨⟨dB,rfl,aR⟩,cr⟩;have ba:=κ aR;have aG:=κ cr;have cL:=κ (SlI.of_owns aR (by have:=aX.o.1;omega));obtain⟨aJ,aK,rfl⟩:=VQ aR;clear aR cr)))
 obtain⟨aO,aB,bR,bi,bO,bh,bS,aP,a3⟩:=Y.o.r3;have bz:Hid (qg (λb=>b=k.L∨RgB k.R2 k.A2 b) w w8):=κ (au.o.more aG.o);have bF:=κ (qc aG.o bE.o);have cM:=κ (qc aG.o bL.o);have cB:=κ (bG.o.more aG.o);have bA:=κ a3;have ci:aB.length=s.C.length:=a3.len;have dt:k.R3<w.heap.size:=ql aP.ring;have dp:k.A3<w.heap.size:=ql aP.row;have dI:w.heap.size<=w2.heap.size:=A2.o.size;have aw:Hid (qO 2 332 56 w8 k.R3 k.A3 s.room aO aB bR bi bO bh bS):=κ (aP.away bz.o (by obtain⟨⟨ag,ao,ah,ai,bj,bk⟩,⟨ax,aL,aM,bU,bV⟩,⟨aN,cR,aO,cS⟩,⟨cl,cm,cn⟩,⟨co,cp⟩,_⟩:=ae.o;rintro(e | e | e)<;>omega) (by obtain⟨⟨ag,ao,ah,ai,bj,bk⟩,⟨ax,aL,aM,bU,bV⟩,⟨aN,cR,aO,cS⟩,⟨cl,cm,cn⟩,⟨co,cp⟩,_⟩:=ae.o;rintro(e | e | e)<;>omega));obtain⟨ar,bv,bw,op,ce,cg⟩:=Pu w8 k.R3 k.A3 s.room aO aB bR bi bO bh bS aw.o (UU a3) [ι x.id,δ aJ body.length aK] ⟨rfl,by simp[Value.oneCell']⟩;have aY:=κ cg;have cF:=κ ce;clear cg ce aP a3;generalize cb:decide (¬aB.length<s.room)=dr at aY;have cE:=κ cb;clear cb;have ct: ¬RgB k.R3 k.A3 k.L:=by
  obtain⟨⟨ag,ao,ah,ai,bj,bk⟩,_⟩:=ae.o;rintro(e | e)<;>omega
 have de: ¬RgB k.R3 k.A3 w2.heap.size:=by rintro(e | e)<;>omega
 go_cut [10,11,12] from 48 (λdh di dj bx=> ∃C,dh= γ C/\di= μ dr/\dj= ι 0/\bx.heap[C]? =some (.cells #[ι ar,δ bv bw op] 56 (0,0))/\qg (RgB k.R3 k.A3) w8 bx/\ ∃ap am ak an,qO 2 332 56 bx k.R3 k.A3 s.room ap (vH s.room aB [ι x.id,δ aJ body.length aK]) am bi ak bh an)
 case first=>
  have dk: ∀y:qu (RgB k.R3 k.A3) w8,y.w'.cell? ⟨k.L,3,none⟩=some (π (some ⟨k.R3,0,none⟩)):=λy=>qb (y.h.blk bF.o ct) 3 rfl
  have dl: ∀y:qu (RgB k.R3 k.A3) w8,y.w'.cell? ⟨w2.heap.size,0,none⟩=some (ι x.id):=λy=>qb (y.h.blk cM.o de) 0 rfl
  refine wE (RgB k.R3 k.A3) w8 18 (.op 0 false (.op 1 false (.op 2 false (.op 3 false (.op 4 false (.op 5 false (.op 6 false (.op 7 false (.op 8 false (.br [9,14] λk=>if k=9 then .op 10 false (.op 11 false (.op 12 false (.op 13 false (.op 14 true (.op 15 true (.op 16 false (.op 17 false (.done)))))))) else .op 9 true (.op 10 false (.op 11 false (.op 12 false (.op 13 false (.op 15 true (.op 16 false (.op 17 false (.done)))))))))))))))))) ξ ξ ?_
  repeat (first | (refine jd rfl rfl (qi σ) ?_) | (refine qE rfl rfl (qi σ) ?_;intro K d;go_big_quiet_op;go_big_quiet_on))
  refine wR ζ ?_ ?_
  ·(refine qP rfl rfl ?_;intro K d;unfold jl;go_simp)
   go_call aY.o _ (aw.o.more (qa.drewN w8 1)) as e w9 ⟨rfl,ab,a9⟩;have U:Hid (qg (RgB k.R3 k.A3) w8 w9):=κ (((qg.refl _ _).drewN 1).trans a9);have aW:=κ ab;clear a9 ab;refine⟨_,rfl,qi U.o,d _ _ ?_⟩;clear d K
   repeat (first | (refine jd rfl rfl (qi U.o) ?_) | (refine qE rfl rfl (qi U.o) ?_;intro K d;go_big_quiet_op;go_big_quiet_on))
   (refine qP rfl rfl ?_;intro K d;unfold jl;go_simp)
   refine⟨qi (U.o.alc _),d _ _ ?_⟩;clear d K
   (refine qP rfl rfl ?_;intro K d;unfold jl;go_simp)
   refine⟨qi (U.o.alc _),d _ _ ?_⟩;clear d K
   repeat (first | (refine jd rfl rfl (qi (U.o.alc _)) ?_) | (refine qE rfl rfl (qi (U.o.alc _)) ?_;intro K d;go_big_quiet_op;go_big_quiet_on))
   refine ze ?_;go_wp2;go_meet;obtain⟨ap,am,ak,an,ab⟩:=aW.o;exact⟨_,rfl,rfl,rfl,qk w9 _,U.o.alc _,ap,am,ak,an,ab.more (qa.alloc _ _)⟩
  ·(refine qP rfl rfl ?_;intro K d;unfold jl;go_simp)
   refine⟨qi (((qg.refl _ w8).drewN 1).alc _),d _ _ ?_⟩;clear d K
   (refine qP rfl rfl ?_;intro K d;unfold jl;go_simp)
   go_call aY.o _ (aw.o.more ((qa.drewN w8 1).al _)) as e w9 ⟨rfl,ab,a9⟩;have U:Hid (qg (RgB k.R3 k.A3) w8 w9):=κ ((((qg.refl _ _).drewN 1).alc _).trans a9);have aW:=κ ab;have du:k.R3<w8.heap.size:=ql aw.o.ring;have dq:k.A3<w8.heap.size:=ql aw.o.row;have av:Hid (w9.heap[w8.heap.size]? =some (.cells Γs 56 (0,0))):=κ (a9.blk (qB rfl) (by rintro(e | e)<;>omega));clear a9 ab;have dm:w9.cell? ⟨w8.heap.size,0,none⟩=some (ι 0):=qb av.o 0 rfl;have ag:w9.cell? ⟨w8.heap.size,1,none⟩=some (δ none 0 0):=qb av.o 1 rfl;have e0:w9.frozen? ⟨w8.heap.size,0,none⟩=false:=qd av.o 0;have ax:w9.frozen? ⟨w8.heap.size,1,none⟩=false:=qd av.o 1;refine⟨_,rfl,qi U.o,d _ _ ?_⟩;clear d K
   repeat (first | (refine jd rfl rfl (qi U.o) ?_) | (refine qE rfl rfl (qi U.o) ?_;intro K d;go_big_quiet_op;go_big_quiet_on))
   (refine qP rfl rfl ?_;intro K d;unfold jl;go_simp)
   have aC:qg (RgB k.R3 k.A3) w8 ((w9.setCell ⟨w8.heap.size,0,none⟩ (ι ar)).setCell ⟨w8.heap.size,1,none⟩ (δ bv bw op)):=(U.o.setNew (Nat.le_refl _) _).setNew (Nat.le_refl _) _;have cw:qg (λb=>b=w8.heap.size) w9 ((w9.setCell ⟨w8.heap.size,0,none⟩ (ι ar)).setCell ⟨w8.heap.size,1,none⟩ (δ bv bw op)):=((qg.refl (λb=>b=w8.heap.size) w9).set (p:=⟨w8.heap.size,0,none⟩) rfl _).set (p:=⟨w8.heap.size,1,none⟩) rfl _;refine⟨qi aC,d _ _ ?_⟩;clear d K
   repeat (first | (refine jd rfl rfl (qi aC) ?_) | (refine qE rfl rfl (qi aC) ?_;intro K d;go_big_quiet_op;go_big_quiet_on))
   refine ze ?_;go_wp2;go_meet;obtain⟨ap,am,ak,an,ab⟩:=aW.o;exact⟨_,rfl,rfl,rfl,qA (qo (qo av.o 0 _) 1 _) rfl,aC,ap,am,ak,an,ab.away cw τ τ⟩
 case rest=>
 obtain⟨C,rfl,rfl,rfl,bT,bg,ap,am,ak,an,bX⟩:=hcut;have aE:=κ bg;have cC:=κ bX;have cx:Hid (wc.heap[k.L]? =some (.cells (jO k vo {s with rw:=⟨s.rw.src,Q,s.rw.st,true,Z,X⟩}) 153 (0,0))):=κ (bg.blk bF.o ct);have dG:wc.cell? ⟨C,0,none⟩=some (ι ar):=qb bT 0 rfl;clear bg bX bT;go_wp2;refine bodyPost_ret (v:= .tuple #[ι ar,dr,true]) (by simp[results,results138,go_sem]) rfl ?_;obtain⟨⟨ag,ao,ah,ai,bj,bk⟩,⟨ax,aL,aM,bU,bV⟩,⟨dv,dw,dx,dy⟩,⟨cl,cm,cn⟩,⟨co,cp⟩,_⟩:=ae.o;have bC:qg (λb=>b=k.L∨RgB k.R2 k.A2 b∨RgB k.R3 k.A3 b) w wc:=(bz.o.mono λb G=>by rcases G with e | e;exact Or.inl e;exact Or.inr (Or.inl e)).trans (aE.o.mono λb G=>Or.inr (Or.inr G));have cd: ∀b,(b=k.L∨RgB k.R2 k.A2 b∨RgB k.R3 k.A3 b)->k.muts b:=λb G=>by rcases G with e | e | e;exact Or.inl e;exact Or.inr (Or.inr (Or.inl e));exact Or.inr (Or.inr (Or.inr e))
 have aD:qg k.muts w wc:=bC.mono cd;have bB:qg (lnM k vo) w wc:=aD.mono λb G=>Or.inl G
 have aq: ∀b,vo.ownBlock=some b->vo.ownBlock=some b∨w.heap.size<=b:=λb G=>Or.inl G
 have cV: ∀b,(b=k.L∨RgB k.R2 k.A2 b∨RgB k.R3 k.A3 b)->lnE N k vo b:=λb G=>uf (cd b G)
 have aa:=Y.o.ok;have cZ:jp ROu (lnE (xd N w wc) k vo) wc [ι x.id,δ aJ body.length aK] (x.id,body):=λw'' a=>by
  refine⟨_,rfl, ?_,aX.o.2,aX.o.1⟩
  have dc:SlI .u8 wc (δ aJ body.length aK) body:=cL.o.off (λb e G=>by
   have cT:=ur ba.o e;have cU:=au.o.size
   rcases G with G | G<;>omega) aE.o
  refine Y.o.fresh (vo':=vo) dc (λb e=>⟨Nat.le_trans au.o.size (ur ba.o e),Nat.lt_of_lt_of_le (Vm ba.o e) aE.o.size⟩) (λb e=>e) a
 have ch:=Am (R:=ROu) (D:=lnE (xd N w wc) k vo) (w:=wc) (room:=s.room) (bA.o.mono λc y bt=>Y.o.held bt bB aq) cZ;have da:ar=dg:=by rw[cF.o,ci,Pz bA.o];exact cI.o
 have db:dr=df:=by rw[<-cE.o,ci];exact cH.o
 rw[cG.o] at ch;rw[<-da,<-db];refine⟨rfl,Y.o.make aD.size cx.o (Y.o.r1.step bC (by rintro(e | (e | e) | (e | e))<;>omega) (by rintro(e | (e | e) | (e | e))<;>omega) cV λb G=>Or.inl (xD Y.o.own aq G)) ⟨_,_,_,_,_,_,_,cB.o.away aE.o (by rintro(e | e)<;>omega) (by rintro(e | e)<;>omega),AQ.o.mono λc y bt=>Y.o.held bt bB aq⟩ ⟨_,_,_,_,_,_,_,cC.o,ch⟩ (Y.o.rows aD) ⟨aa.most,aa.row,aa.lt,cW,aa.src⟩,aD.mono λb G=>Y.o.muts b G⟩
theorem UD (h:LnX N w k vo s):Calls prog 138 #[γ k.L] w λe w'=>e= .returned (.tuple #[ι (qL s).2.1,μ (qL s).2.2.1,μ (qL s).2.2.2])/\LnX (xd N w w') w' k vo (qL s).1/\qg N w w':=by
 cases hB:s.B with
 | nil=>
  have e:qL s=(s,0,false,false):=by unfold qL;rw[hB]
  rw[e];refine(Zn h (by show decide (0<s.B.length)=false;rw[hB];rfl)).mono ?_;rintro e w' ⟨rfl,m⟩;exact⟨rfl,h.grow m,qg.of_more m⟩
 | cons y T=>
  obtain⟨x,d⟩:=y;have e:qL s=((vj {s with B:=T,rw:=uq s.rw x.pk d} (x.id,pkB (ue s.rw x.pk d))).1,(vj {s with B:=T,rw:=uq s.rw x.pk d} (x.id,pkB (ue s.rw x.pk d))).2.1,(vj {s with B:=T,rw:=uq s.rw x.pk d} (x.id,pkB (ue s.rw x.pk d))).2.2,true):=by unfold qL;rw[hB]
  rw[e];have G:=XV h x d T hB (shL s.rw x.pk.st d) ((x.pk.st+shL s.rw x.pk.st d)%4294967296) ((s.rw.sq+1)%65536) rfl rfl rfl;by_cases hc:s.C.length<s.room
  ·have H:vj {s with B:=T,rw:=uq s.rw x.pk d} (x.id,pkB (ue s.rw x.pk d))=({s with B:=T,rw:=uq s.rw x.pk d,C:=s.C++[(x.id,pkB (ue s.rw x.pk d))]},0,false):=by unfold vj;rw[if_pos hc]
   rw[H];simp only[hc,if_true,not_true,decide_false] at G;exact G
  ·have H:vj {s with B:=T,rw:=uq s.rw x.pk d} (x.id,pkB (ue s.rw x.pk d))=({s with B:=T,rw:=uq s.rw x.pk d,C:=s.C.tail++[(x.id,pkB (ue s.rw x.pk d))]},(s.C.head?.map (·.1)).getD 0,true):=by unfold vj;rw[if_neg hc]
   rw[H];simp only[hc,if_false,not_false_iff,decide_true] at G;exact G
end
end Go.Proofs.YtlmllmonabafjaaGreatDoor
