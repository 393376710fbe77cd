/- Texts of one proof, joined: TapePure, OwnBy, TapeA, TapeB. -/
import Derived.Test.YtgjnnbomnoafcaaGreatPA
import Derived.Test.YtgjnnbomnoafcaaGreatPK
import Derived.Test.YtgjnnbomnoafcaaGreatPD
import Derived.Test.YtgjnnbomnoafcaaGreatPV
set_option linter.unusedVariables false
set_option linter.unusedSimpArgs false
namespace Go.Proofs.YtgjnnbomnoafcaaGreat
set_option linter.unusedVariables false
namespace Tp
def ent (x:List Nat):List Nat:=x.length % 256::x.length / 256 % 256::x
def pack (l:List (List Nat)):List Nat:=l.flatMap ent
def chunk (b:List Nat):List Nat:=b.take 108++List.replicate (108 - b.length) 0
def chunks (k:Nat) (b:List Nat):List (List Nat):=(List.range k).map fun i=>chunk (b.drop (i*108))
def okE (k:Nat) (x:List Nat):Prop:=1<=x.length/\x.length+2<=k*108
instance (k:Nat) (x:List Nat):Decidable (okE k x):=by unfold okE; infer_instance
def fits (k:Nat) (l:List (List Nat)):Prop:=(∀ x∈l,okE k x)/\l≠[]/\(pack l).length<=k*108
instance (k:Nat) (l:List (List Nat)):Decidable (fits k l):=by unfold fits; infer_instance
def fill (k:Nat) (l:List (List Nat)):Option (List (List Nat)):=if fits k l then some (chunks k (pack l)) else none
def head (b:List Nat):Nat:=nth b 0+256*nth b 1
def unpackN:Nat->List Nat->List (List Nat)
 | 0,_=>[]
 | n+1,b=>if b.length < 2 then [] else if head b=0\/(b.drop 2).length < head b then [] else (b.drop 2).take (head b)::unpackN n ((b.drop 2).drop (head b))
def unpack (b:List Nat):List (List Nat):=unpackN b.length b
def empty (l:List (List Nat)):List (List Nat):=unpack l.flatten
theorem chunk_len (b:List Nat):(chunk b).length=108:=by
 unfold chunk
 rw [List.length_append,List.length_take,List.length_replicate]; omega
theorem chunks_len (k:Nat) (b:List Nat):(chunks k b).length=k:=by simp [chunks]
theorem chunks_108 (k:Nat) (b:List Nat):∀ x∈chunks k b,x.length=108:=fun x hx=>by
 unfold chunks at hx
 obtain ⟨i,_,rfl⟩:=List.mem_map.1 hx
 exact chunk_len _
theorem chunk_byte {b:List Nat} (h:∀ x∈b,x < 256):∀ x∈chunk b,x < 256:=fun x hx=>by
 unfold chunk at hx
 rcases List.mem_append.1 hx with q | q
 ·
  exact h x (List.mem_of_mem_take q)
 ·
  rw [List.eq_of_mem_replicate q]; omega
theorem chunks_byte {k:Nat} {b:List Nat} (h:∀ x∈b,x < 256):∀ y∈chunks k b,∀ x∈y,x < 256:=fun y hy=>by
 unfold chunks at hy
 obtain ⟨i,_,rfl⟩:=List.mem_map.1 hy
 exact chunk_byte fun x hx=>h x (List.mem_of_mem_drop hx)
theorem ent_len (x:List Nat):(ent x).length=x.length+2:=rfl
theorem ent_byte {x:List Nat} (h:∀ y∈x,y < 256):∀ y∈ent x,y < 256:=fun y hy=>by
 unfold ent at hy
 rcases List.mem_cons.1 hy with rfl | hy
 ·
  exact Nat.mod_lt _ (by omega)
 rcases List.mem_cons.1 hy with rfl | hy
 ·
  exact Nat.mod_lt _ (by omega)
 ·
  exact h y hy
theorem pack_byte {l:List (List Nat)} (h:∀ x∈l,∀ y∈x,y < 256):∀ y∈pack l,y < 256:=fun y hy=>by
 unfold pack at hy
 obtain ⟨x,hx,hy⟩:=List.mem_flatMap.1 hy
 exact ent_byte (h x hx) y hy
theorem pack_snoc (l:List (List Nat)) (x:List Nat):pack (l++[x])=pack l++ent x:=by unfold pack; simp
theorem take_succ_pack (l:List (List Nat)) (i:Nat) (x:List Nat) (h:l[i]?=some x):pack (l.take (i+1))=pack (l.take i)++ent x:=by
 rw [List.take_add_one,h]
 exact pack_snoc _ _
theorem chunks_flat:∀ (k:Nat) (b:List Nat),b.length<=k*108->(chunks k b).flatten=b++List.replicate (k*108 - b.length) 0
 | 0,b,h=>by
  have:b=[]:=List.length_eq_zero_iff.1 (by omega)
  subst this; rfl
 | k+1,b,h=>by
  have e:chunks (k+1) b=chunk b::chunks k (b.drop 108):=by
   unfold chunks
   rw [List.range_succ_eq_map,List.map_cons,List.map_map]
   congr 1
   refine List.map_congr_left fun i _=>?_
   show chunk (b.drop ((i+1)*108))=chunk ((b.drop 108).drop (i*108))
   rw [List.drop_drop]
   congr 2
   omega
  rw [e,List.flatten_cons,chunks_flat k (b.drop 108) (by rw [List.length_drop]; omega),List.length_drop]
  unfold chunk
  by_cases q:108<=b.length
  ·
   rw [show 108 - b.length=0 by omega,List.replicate_zero,List.append_nil,<- List.append_assoc,List.take_append_drop]
   congr 2
   omega
  ·
   rw [List.take_of_length_le (by omega),List.drop_eq_nil_of_le (by omega),List.nil_append,List.append_assoc,List.replicate_append_replicate]
   congr 2
   omega
theorem unpack_zeros (n m:Nat):unpackN n (List.replicate m 0)=[]:=by
 cases n with
 | zero=>rfl
 | succ n =>
  unfold unpackN
  by_cases h:(List.replicate m 0).length < 2
  ·
   rw [if_pos h]
  ·
   rw [if_neg h,if_pos]
   refine .inl ?_
   unfold head
   rw [Zcj,Zcj]
   split<;>split<;>rfl
theorem ent_head (x r:List Nat) (h:x.length < 65536):head (ent x++r)=x.length:=by
 show x.length % 256+256*(x.length / 256 % 256)=x.length
 omega
theorem unpackN_pack:∀ (l:List (List Nat)) (n m:Nat),(∀ x∈l,1<=x.length/\x.length < 65536)->l.length<=n->unpackN n (pack l++List.replicate m 0)=l
 | [],n,m,_,_=>unpack_zeros n m
 | x::l,0,m,_,h=>by simp at h
 | x::l,n+1,m,hl,h=>by
  have hx:=hl x List.mem_cons_self
  have e:pack (x::l)++List.replicate m 0=ent x++(pack l++List.replicate m 0):=by
   show (ent x++pack l)++_=_
   rw [List.append_assoc]
  rw [e]
  have e2:(ent x++(pack l++List.replicate m 0)).drop 2=x++(pack l++List.replicate m 0):=rfl
  unfold unpackN
  rw [if_neg (by rw [List.length_append,ent_len]; omega),ent_head x _ hx.2,e2,if_neg (by rw [List.length_append]; omega),List.take_left' rfl,List.drop_left' rfl]
  rw [unpackN_pack l n m (fun y hy=>hl y (List.mem_cons_of_mem _ hy)) (by simp at h; omega)]
theorem pack_len:∀ l:List (List Nat),l.length<=(pack l).length
 | []=>by simp
 | x::l=>by
  have:=pack_len l
  show l.length+1<=(ent x++pack l).length
  rw [List.length_append,ent_len]; omega
theorem empty_fill {k:Nat} {l:List (List Nat)} (hk:k<=8) (h:fits k l):empty (chunks k (pack l))=l:=by
 unfold empty unpack
 rw [chunks_flat k _ h.2.2]
 have h1:=pack_len l
 exact unpackN_pack l _ _ (fun x hx=>by have:=h.1 x hx; unfold okE at this; omega) (by rw [List.length_append]; omega)
theorem unpackN_more:∀ (n m:Nat) (b:List Nat),b.length<=n->n<=m->unpackN m b=unpackN n b
 | 0,m,b,h,_=>by
  have:b=[]:=List.length_eq_zero_iff.1 (by omega)
  subst this
  cases m<;>rfl
 | n+1,0,b,h,hm=>by omega
 | n+1,m+1,b,h,hm=>by
  unfold unpackN
  by_cases h1:b.length < 2
  ·
   rw [if_pos h1,if_pos h1]
  rw [if_neg h1,if_neg h1]
  by_cases h2:head b=0\/(b.drop 2).length < head b
  ·
   rw [if_pos h2,if_pos h2]
  rw [if_neg h2,if_neg h2,unpackN_more n m _ (by rw [List.length_drop,List.length_drop]; omega) (by omega)]
theorem unpack_stop {b:List Nat} (h:b.length < 2\/head b=0\/(b.drop 2).length < head b):unpack b=[]:=by
 unfold unpack
 cases e:b.length with
 | zero=>rfl
 | succ n =>
  unfold unpackN
  by_cases h1:b.length < 2
  ·
   rw [if_pos h1]
  ·
   rw [if_neg h1,if_pos (h.resolve_left h1)]
theorem unpack_step {b:List Nat} (h1:2<=b.length) (h2:head b≠0) (h3:head b<=(b.drop 2).length):unpack b=(b.drop 2).take (head b)::unpack ((b.drop 2).drop (head b)):=by
 unfold unpack
 obtain ⟨n,hn⟩:∃ n,b.length=n+1:=⟨b.length - 1,by omega⟩
 rw [hn]
 have e:unpackN (n+1) b=(b.drop 2).take (head b)::unpackN n ((b.drop 2).drop (head b)):=by
  show (if b.length < 2 then [] else if head b=0\/(b.drop 2).length < head b then [] else _)=_
  rw [if_neg (by omega),if_neg (by omega)]
 rw [e,unpackN_more _ n _ (Nat.le_refl _) (by rw [List.length_drop,List.length_drop]; omega)]
theorem chunks_blocks {k:Nat} {b:List Nat} (h:∀ x∈b,x < 256):Cd.Blocks k 108 (chunks k b):=Cd.Blocks.mem (chunks_len k b) (chunks_108 k b) (chunks_byte h)
end Tp
open Go Go.RowKit
def OwnBy (w:World) (B:Nat) (v:Value) (l:List Nat):Prop:=w.ownsRow B 5 1 v l.length (l.map bv)
namespace OwnBy
variable {w w':World} {B:Nat} {v:Value} {l:List Nat}
theorem nil (w:World) (B:Nat):OwnBy w B (.slice none 0 0) []:=World.ownsRow_nil w B _ _
theorem only {F:Nat->Prop} (h:OwnBy w B v l) (e:Only F w w') (hn:∀ b,v.ownBlock=some b->¬F b):OwnBy w' B v l:=by
 refine ⟨h.1,?_⟩
 rcases h.2 with h' | ⟨g,c,cur,h1,h2,h3,h4⟩
 ·
  exact .inl h'
 ·
  exact .inr ⟨g,c,cur,h1,h2,e.at h3 (hn g (by rw [h1]; rfl)),h4⟩
theorem ext (h:OwnBy w B v l) (e:Ext w w'):OwnBy w' B v l:=h.only e fun _ _ x=>x
theorem lt (h:OwnBy w B v l) (b:Nat) (e:v.ownBlock=some b):B<=b/\b < w.heap.size:=World.ownsRow.lt h b e
theorem slice (h:OwnBy w B v l) (hb:∀ x∈l,x < 256) (hl:l.length<=140737488355328):∃ a c,v=.slice a l.length c/\BytesAt w a l.length l/\l.length<=c/\∀ b o,a=some ⟨b,o,none⟩->o=0/\v.ownBlock=some b/\B<=b:=by
 have hc:=h
 rcases h.2 with ⟨h1,h2⟩ | ⟨g,c,cur,h1,h2,h3,h4⟩
 ·
  exact ⟨none,0,by rw [h1,h2],⟨rfl,hl,hb,.inl h2⟩,by omega,fun b o hb=>by cases hb⟩
 ·
  refine ⟨_,c,h1,⟨rfl,hl,hb,.inr ⟨g,0,rfl,fun i hi=>?_⟩⟩,h4.1,fun b o hb=>by cases hb; exact ⟨rfl,by rw [h1]; rfl,h2⟩⟩
  have:=h.cells (g:=g) (by rw [h1]; rfl) i (bv (nth l i)) (by rw [List.getElem?_map,List.getElem?_eq_getElem hi,Za3 hi]; rfl)
  have e:(⟨g,0,none⟩:Addr).add i=⟨g,0+i,none⟩:=by unfold Addr.add; split<;>simp_all
  rw [e] at this
  exact this
theorem push (h:OwnBy w B v l) {a:Option Addr} {n c:Nat} {m:List Nat} (hb:BytesAt w a n m) (hn:0 < n) (hl:l.length+n<=100000) (hB:B<=w.heap.size) :
  ∃ v' w',Sem.run Tryz.prog (Builtin.append_ #[38,38] 38 #[v,.slice a n c]) w=.ok v' w'/\OwnBy w' B v' (l++m) ∧
   Only (fun b=>v.ownBlock=some b) w w'/\(∀ w0,w0.heap.size<=B->Ext w0 w->Ext w0 w'):=by
 obtain ⟨i0,hi,hz0,hz1,hz2⟩:=info_parts info8
 have hml:=hb.len
 rcases hb.cells with h0 | ⟨b,off,rfl,hc⟩
 ·
  omega
 obtain ⟨v',w',h1,h2,h3,_⟩:=run_append_own_at (P:=Tryz.prog) (w:=w) B 38 38 5 i0 (.int .u8 0) 1 1 Tryz.underlying38 hi hz0 hz1 hz2 rfl (by decide)
  v l.length _ h ⟨b,off,none⟩ n c (m.map bv) (by simp [hml])
  (by
   intro j u hu
   rw [List.getElem?_map] at hu
   have hj:j < m.length:=by
    rcases Nat.lt_or_ge j m.length with h' | h'
    ·
     exact h'
    ·
     rw [List.getElem?_eq_none h'] at hu; cases hu
   rw [List.getElem?_eq_getElem hj] at hu
   have e:(⟨b,off,none⟩:Addr).add j=⟨b,off+j,none⟩:=by unfold Addr.add; split<;>simp_all
   rw [e,hc j (by omega),Za3 hj]
   exact hu)
  (by intro u hu; obtain ⟨x,_,rfl⟩:=List.mem_map.1 hu; rfl) (by unfold maxLen; omega) (by omega) hB
 have ho:Only (fun b=>v.ownBlock=some b) w w':=(Only.refl (fun b=>v.ownBlock=some b) w).grown h3 (fun k _ e=>e)
 refine ⟨v',w',h1,by unfold OwnBy; rw [List.length_append,List.map_append,hml]; exact h2,ho,fun w0 hw0 hx=>Ext.then hx ho fun i hi e=>?_⟩
 have:=(h.lt i e).1
 omega
end OwnBy
def EntsAt (w:World) (a:Option Addr) (l:List (List Nat)):Prop:=∀ i x,l[i]?=some x->∃ g off p cp,a=some ⟨g,off,none⟩/\w.cell? ⟨g,off+i,none⟩=some (.slice p x.length cp)/\BytesAt w p x.length x
namespace EntsAt
variable {w w':World} {a:Option Addr} {l:List (List Nat)}
theorem ext (h:EntsAt w a l) (e:Ext w w'):EntsAt w' a l:=fun i x hx=>by
 obtain ⟨g,off,p,cp,h1,h2,h3⟩:=h i x hx
 exact ⟨g,off,p,cp,h1,e.cell h2,h3.ext e⟩
theorem byte (h:EntsAt w a l):∀ x∈l,∀ y∈x,y < 256:=fun x hx=>by
 obtain ⟨i,hi⟩:=List.getElem?_of_mem hx
 obtain ⟨g,off,p,cp,h1,h2,h3⟩:=h i x hi
 exact h3.byte
end EntsAt
end Go.Proofs.YtgjnnbomnoafcaaGreat
namespace Go.Proofs.YtgjnnbomnoafcaaGreat
set_option linter.unusedVariables false
open Go Go.RowKit
set_option maxRecDepth 100000 in
theorem troom_c (c:Cfg) (h:c.Good) (w:World):Calls Tryz.prog 8 #[.agg (Cfg.A c)] w fun e w'=>e=.returned (.int .i64 (c.k*108))/\Ext w w':=by
 have a1:=Cfg.A1 c
 have b0:=h.k0
 have b1:=h.k1
 have b2:=h.n1
 clear h
 obtain ⟨id,k,n,st,sl⟩:=c
 simp only at a1 b0 b1 b2 ⊢
 generalize Cfg.A _=A at *
 have hw:wrap64 (k*108)=k*108:=by unfold wrap64; omega
 clear b0 b1 b2
 go_enter Tryz.func8,Tryz.ntmps8
 go_wp2
 go_ret
 exact ⟨ret_int (by simp only [hw]),(Ext.refl w).alloc _⟩
theorem copy_cells (W:World) (g off nd cd:Nat) (C:Array Value) (T:TypeId) (hC:W.heap[g]?=some (.cells C T (0,0))) {a:Option Addr} {n:Nat} (c':Nat) {l:List Nat} (h:BytesAt W a n l) (hfit:off+nd<=C.size) :
  ∃ C':Array Value,Sem.run Tryz.prog (Builtin.copy_ #[38,38] 3 #[.slice (some ⟨g,off,none⟩) nd cd,.slice a n c']) W=.ok (.int .i64 (Nat.min n nd:Nat)) (W.setRow g C')/\C'.size=C.size ∧
   ∀ q,q < C.size->C'[q]?=if off<=q/\q < off+Nat.min n nd then some (.int .u8 (nth l (q - off))) else C[q]?:=by
 obtain ⟨i0,hi,hz0,hz1,hz2⟩:=info_parts info8
 have hl:=h.len
 rcases h.cells with rfl | ⟨b',off',rfl,hc⟩
 ·
  refine ⟨C,?_,rfl,fun q hq=>?_⟩
  ·
   rw [setRow_self W g _ _ _ hC]
   cases a<;>simp [loadCells,loadCellsFrom,Builtin.copy_,run_underlying Tryz.underlying38,Builtin.lenOf,Builtin.firstCells,sizeOf,typeInfo,hi,storeCells,goInt]
  ·
   rw [if_neg]
   have:Nat.min 0 nd=0:=Nat.zero_min nd
   omega
 ·
  have hm1:Nat.min n nd<=n:=Nat.min_le_left _ _
  have hm2:Nat.min n nd<=nd:=Nat.min_le_right _ _
  generalize hm:Nat.min n nd=m at *
  have hlen:((l.take m).map bv).length=m:=by rw [List.length_map,List.length_take]; omega
  have hr:=run_copy_row (P:=Tryz.prog) W 38 38 3 5 g off nd cd ⟨b',off',none⟩ n c' C T ((l.take m).map bv)
   Tryz.underlying38 (by rw [hi]; exact congrArg some hz1) hC (by rw [hlen,hm])
   (by
    intro j v hv
    rw [List.getElem?_map,List.getElem?_take] at hv
    by_cases hj:j < m
    ·
     rw [if_pos hj,List.getElem?_eq_getElem (by omega)] at hv
     have e:(⟨b',off',none⟩:Addr).add j=⟨b',off'+j,none⟩:=by unfold Addr.add; split<;>simp_all
     rw [e,hc j (by omega),Za3 (by omega)]
     exact hv
    ·
     rw [if_neg hj] at hv; cases hv)
   (by rw [hlen]; omega) (by intro v hv; obtain ⟨x,_,rfl⟩:=List.mem_map.1 hv; rfl)
  rw [hlen] at hr
  refine ⟨_,hr,?_,fun q hq=>?_⟩
  ·
   simp [hlen]; omega
  ·
   rw [List.getElem?_toArray,List.append_assoc,List.getElem?_append]
   have h1:(C.toList.take off).length=off:=by rw [List.length_take]; simp; omega
   rw [h1]
   by_cases q1:q < off
   ·
    rw [if_pos q1,if_neg (by omega),List.getElem?_take,if_pos q1]; simp
   ·
    rw [if_neg q1,List.getElem?_append,hlen]
    by_cases q2:q - off < m
    ·
     rw [if_pos q2,if_pos (by omega),List.getElem?_map,List.getElem?_take,if_pos q2,List.getElem?_eq_getElem (by omega),Za3 (by omega)]; rfl
    ·
     rw [if_neg q2,if_neg (by omega),List.getElem?_drop]
     simp only [Array.getElem?_toList]
     rw [show off+m+(q - off - m)=q by omega]
set_option maxRecDepth 100000 in
theorem make_blocksS (k:Nat) (h1:k<=8):∃ C:Array Value,(∀ w:World,Sem.run Tryz.prog (Instr.makeSlice 29 (.int .i64 k) (.int .i64 k)) w=.ok (.slice (some ⟨w.heap.size,0,none⟩) k k) (w.alloc (.cells C 24)))/\C.size=k*108/\∀ q,q < k*108->C[q]?=some (.int .u8 0):=by
 obtain ⟨i0,hi,hz0,hz1,hz2⟩:=info_parts infoBlk
 refine ⟨madeCells (bA z108) (k*108),fun w=>?_,?_,fun q hq=>?_⟩
 ·
  have h:=run_make (P:=Tryz.prog) w 29 24 i0 (.agg (bA z108)) Tryz.underlying29 hi hz0 .i64 .i64 k k (by omega) (Int.le_refl _) (by rw [hz2]; omega) (by omega)
  rw [h,hz1]
  rfl
 ·
  unfold madeCells; simp
 ·
  unfold madeCells
  have hs:(bA z108).size=108:=by rw [Zaz]; simp [z108]
  have hb:(bA z108)[q % 108]?=some (.int .u8 0):=by
   have hm:q % 108 < z108.length:=by simp [z108]; omega
   rw [Zbf z108 _ hm,show nth z108 (q % 108)=0 from nth_rep0 108 _]
   rfl
  rw [Array.getElem?_map,Array.getElem?_range,if_pos hq]
  simp only [Option.map_some,hs]
  rw [Array.getElem!_eq_getD,Array.getD_eq_getD_getElem?,hb]
  rfl
def ChAt (w:World) (g k:Nat) (P:List Nat) (i:Nat):Prop:=∃ C:Array Value,w.heap[g]?=some (.cells C 24 (0,0))/\C.size=k*108/\∀ q,q < k*108->C[q]?=some (.int .u8 (if q < i*108 then nth P q else 0))
theorem nth_over {l:List Nat} {i:Nat} (h:l.length<=i):nth l i=0:=by
 unfold nth; rw [List.getD_eq_getElem?_getD,List.getElem?_eq_none h]; rfl
theorem nth_chunk (P:List Nat) (i j:Nat) (hj:j < 108):nth (Tp.chunk (P.drop (i*108))) j=nth P (i*108+j):=by
 unfold Tp.chunk
 rw [nth_append,List.length_take]
 by_cases h:j < min 108 (P.drop (i*108)).length
 ·
  rw [if_pos h,Zb6,if_pos (by omega),Zbe]
 ·
  rw [if_neg h,Zcj]
  rw [List.length_drop] at h
  rw [nth_over (l:=P) (by omega)]
  split<;>rfl
theorem ChAt.blks {w:World} {g k:Nat} {P:List Nat} (h:ChAt w g k P k):BlksAt w (some ⟨g,0,none⟩) (Tp.chunks k P):=fun i b hb=>by
 obtain ⟨C,h1,h2,h3⟩:=h
 have hi:i < k:=by
  rcases Nat.lt_or_ge i k with q | q
  ·
   exact q
  ·
   rw [List.getElem?_eq_none (by rw [Tp.chunks_len]; exact q)] at hb; cases hb
 unfold Tp.chunks at hb
 rw [List.getElem?_map,List.getElem?_range hi] at hb
 cases hb
 refine ⟨g,rfl,fun j hj=>?_⟩
 have h4:=Nat.mul_le_mul_right 108 (show i+1<=k by omega)
 rw [Zaf h1,h3 _ (by omega),if_pos (by omega),nth_chunk P i j hj]
theorem Tp.okE_not {k:Nat} {l:List (List Nat)} {i:Nat} {x:List Nat} (h:l[i]?=some x) (hx:¬Tp.okE k x):¬Tp.fits k l:=fun q=>hx (q.1 x (List.mem_of_getElem? h))
theorem Tp.pack_bd (k:Nat):∀ (l:List (List Nat)),(∀ x∈l,Tp.okE k x)->(Tp.pack l).length<=l.length*(k*108)
 | [],_=>Nat.zero_le _
 | x::l,h=>by
  have h1:=h x List.mem_cons_self
  have h2:=Tp.pack_bd k l fun y hy=>h y (List.mem_cons_of_mem _ hy)
  show (Tp.ent x++Tp.pack l).length<=(l.length+1)*(k*108)
  rw [List.length_append,Tp.ent_len,Nat.add_mul]
  have:=h1.2
  omega
set_option maxRecDepth 100000 in
set_option maxHeartbeats 2000000 in
theorem tfill_c (c:Cfg) (hc:c.Good) (l:List (List Nat)) (hl:l.length<=100) (a:Option Addr) (cp:Nat) (w:World) (h:EntsAt w a l) :
  Calls Tryz.prog 6 #[.agg (Cfg.A c),.slice a l.length cp] w fun e w'=>Ext w w' ∧
   ((¬Tp.fits c.k.toNat l/\e=.returned (.slice none 0 0))\/(Tp.fits c.k.toNat l/\∃ g,e=.returned (.slice (some ⟨g,0,none⟩) c.k.toNat c.k.toNat)/\w.heap.size<=g/\BlksAt w' (some ⟨g,0,none⟩) (Tp.chunks c.k.toNat (Tp.pack l)))):=by
 have HH:=hid h
 have HG:=hid hc
 obtain ⟨kk,hk⟩:∃ kk:Nat,c.k=kk:=⟨c.k.toNat,by have:=hc.k0; omega⟩
 have HKT:=hid (show c.k.toNat=kk by omega)
 have k1:1<=kk:=by have:=hc.k0; omega
 have k8:kk<=8:=by have:=hc.k1; have:=hc.n1; omega
 have HK:=hid hk
 rw [HKT.out]
 obtain ⟨W1,hW1⟩:∃ W,w.alloc (.cells (Cfg.A c) 26)=W:=⟨_,rfl⟩
 have X1:=hid (show Ext w W1 from hW1▸(Ext.refl w).alloc _)
 have HC:=hid (show W1.heap[w.heap.size]?=some (.cells (Cfg.A c) 26 (0,0)) from hW1▸heap_alloc_new _ _)
 have HGC:=hid (show w.heap.size < W1.heap.size from lt_of_block HC.out)
 have HW1:=hid hW1
 clear h hc hk hW1
 go_enter Tryz.func6,Tryz.ntmps6
 go_wp2_with fail
 rw [HW1.out]
 generalize hgc:w.heap.size=gc at *
 have HGW:=hid hgc
 clear hgc
 go_loopw [12,5] (fun t v wr=>∃ i:Nat,t=.int .i64 i/\i<=l.length/\OwnBy wr W1.heap.size v (Tp.pack (l.take i))/\Ext W1 wr/\∀ x∈l.take i,Tp.okE kk x) (fun t _ _=>l.length - (intOf t).toNat)
 case atStart=>exact ⟨0,rfl,by omega,OwnBy.nil _ _,Ext.refl _,fun x hx=>by simp at hx⟩
 case round =>
  obtain ⟨i,rfl,hi,hown,hx,hok⟩:=hrel
  have HO:=hid hown; have HX:=hid hx; have HOK:=hid hok
  have hbd:(Tp.pack (l.take i)).length<=86400:=Nat.le_trans (Tp.pack_bd kk _ hok) (Nat.le_trans (Nat.mul_le_mul (show (l.take i).length<=100 by rw [List.length_take]; omega) (show kk*108<=864 by omega)) (by decide))
  clear hown hx hok
  by_cases hlt:i < l.length
  ·
   obtain ⟨x,hxi⟩:∃ x,l[i]?=some x:=⟨_,List.getElem?_eq_getElem hlt⟩
   obtain ⟨g0,off,p,cpx,rfl,hcell,hbx⟩:=(HH.out.ext X1.out) i x hxi
   have hcell:=Ext.cell HX.out hcell
   have HXI:=hid hxi
   have HBX:=hid hbx
   have hs:=hbx.small
   have i0:(0:Int)<=(i:Int):=by omega
   have i1:(i:Int) < (l.length:Int):=by omega
   have HBD:=hid hbd
   clear hxi hbx hbd
   by_cases h0:x.length=0
   ·
    have t0:((x.length:Int) == 0)=true:=by simp [h0]
    go_wp2_with fail
    go_ret
    exact ⟨Ext.trans X1.out HX.out,.inl ⟨Tp.okE_not HXI.out (fun q=>by have:=q.1; omega),rfl⟩⟩
   ·
    have t0:((x.length:Int) == 0)=false:=beq_eq_false_iff_ne.2 (by omega)
    go_wp2_with (guard_target=wpList _ _ _ (⟨some _,Op.load _ _,_,_,_,some _⟩::_) _ _; refine Zaw 26 _ rfl ⟨gc,0,none⟩ rfl (Cfg.A c) rfl (Zat c) (Zai (HX.out.at HC.out)) ?_)
    refine (troom_c c HG.out _).mono ?_
    rintro e w3 ⟨rfl,x3⟩
    rw [HK.out]
    have HX3:=hid (Ext.trans HX.out x3)
    have HO3:=hid (HO.out.ext x3)
    have hw1:wrap64 ((kk:Int)*108 - 2)=(kk:Int)*108 - 2:=by unfold wrap64; omega
    clear x3 HO HX
    by_cases h1:x.length+2<=kk*108
    ·
     have t1:¬(kk:Int)*108 - 2 < (x.length:Int):=by omega
     have HOE:=hid (show Tp.okE kk x from ⟨by omega,h1⟩)
     obtain ⟨a5,c5,hv5,_,_,_⟩:=HO3.out.slice (Tp.pack_byte fun y hy=>(HH.out.byte y (List.mem_of_mem_take hy))) (by have:=HBD.out; omega)
     obtain ⟨W4,hW4⟩:∃ W,w3.alloc (.cells #[.int .u8 ((x.length:Int) % 256),.int .u8 ((x.length:Int) / 256)] 5)=W:=⟨_,rfl⟩
     have x4:Ext w3 W4:=hW4▸(Ext.refl w3).alloc _
     have hbk:W4.heap[w3.heap.size]?=some (.cells #[.int .u8 ((x.length:Int) % 256),.int .u8 ((x.length:Int) / 256)] 5 (0,0)):=hW4▸heap_alloc_new _ _
     have hby:∀ y∈[x.length % 256,x.length / 256 % 256],y < 256:=fun y hy=>by
      rcases List.mem_cons.1 hy with rfl | hy
      ·
       omega
      rcases List.mem_cons.1 hy with rfl | hy
      ·
       omega
      ·
       cases hy
     have hce:∀ j,j < 2->W4.cell? ⟨w3.heap.size,0+j,none⟩=some (.int .u8 (nth [x.length % 256,x.length / 256 % 256] j)):=fun j hj=>by
      rcases j with _ | _ | j
      ·
       exact (Zaf hbk).trans (congrArg some (congrArg (Value.int .u8) (by show (x.length:Int) % 256=((x.length % 256:Nat):Int); omega)))
      ·
       exact (Zaf hbk).trans (congrArg some (congrArg (Value.int .u8) (by show (x.length:Int) / 256=((x.length / 256 % 256:Nat):Int); omega)))
      ·
       omega
     have hb4:BytesAt W4 (some ⟨w3.heap.size,0,none⟩) 2 [x.length % 256,x.length / 256 % 256]:=⟨rfl,by omega,hby,.inr ⟨_,0,rfl,hce⟩⟩
     obtain ⟨v6,w6,hap,ho6,_,hx6⟩:=(HO3.out.ext x4).push (c:=2) hb4 (by omega) (by have:=HBD.out; omega) (Nat.le_trans HX3.out.size x4.size)
     have hX6:=hx6 W1 (Nat.le_refl _) (Ext.trans HX3.out x4)
     obtain ⟨v7,w7,hap2,ho7,_,hx7⟩:=ho6.push (c:=cpx) (HBX.out.ext hX6) (by omega) (by have:=HBD.out; rw [List.length_append]; simp; omega) hX6.size
     have HX7:=hid (hx7 W1 (Nat.le_refl _) hX6)
     rw [hv5] at hap
     have HA1:=hid hap; have HA2:=hid hap2
     have HO7:=hid (show OwnBy w7 W1.heap.size v7 (Tp.pack (l.take (i+1))) from by
      rw [Tp.take_succ_pack l i x HXI.out]
      have:=ho7
      rw [List.append_assoc] at this
      exact this)
     have HOK7:=hid (show ∀ y∈l.take (i+1),Tp.okE kk y from fun y hy=>by
      rw [List.take_add_one,HXI.out] at hy
      rcases List.mem_append.1 hy with q | q
      ·
       exact HOK.out y q
      ·
       have:y=x:=by simpa using q
       rw [this]; exact HOE.out)
     have HW4:=hid hW4
     subst hv5
     clear hap hap2 ho6 ho7 hx6 hx7 hX6 hb4 hbk hby hce x4 hW4 HO3 HX3 HBX
     go_wp2_with (first
      | (at_builtin; rw [HW4.out]; refine Zah rfl _ _ _ rfl _ _ _ _ rfl rfl HA1.out ?_)
      | (at_builtin; refine Zah rfl _ _ _ rfl _ _ _ _ rfl rfl HA2.out ?_))
     go_roundw
     case rel=>exact ⟨i+1,by go_num,by omega,HO7.out,HX7.out,HOK7.out⟩
     case measure=>simp [intOf]; omega
    ·
     have t1:(kk:Int)*108 - 2 < (x.length:Int):=by omega
     go_wp2_with fail
     go_ret
     exact ⟨Ext.trans X1.out HX3.out,.inl ⟨Tp.okE_not HXI.out (fun q=>by have:=q.2; omega),rfl⟩⟩
  ·
   have i1:¬(i:Int) < (l.length:Int):=by omega
   obtain rfl:i=l.length:=by omega
   rw [List.take_length] at HO HOK hbd
   have HBD:=hid hbd
   obtain ⟨a5,c5,rfl,hb5,hc5,ho5⟩:=HO.out.slice (Tp.pack_byte fun y hy=>(HH.out.byte y hy)) (by omega)
   have HB5:=hid hb5
   clear hb5 hbd
   obtain ⟨P,hP⟩:∃ P,Tp.pack l=P:=⟨_,rfl⟩
   rw [hP] at HB5 HBD hc5
   have HP:=hid hP
   have HPL:=hid (show l≠[]->1<=P.length from fun q=>by have:=Tp.pack_len l; have:=List.length_pos_iff.2 q; rw [hP] at *; omega)
   have HA5:=hid ho5
   rw [hP]
   clear hP HO ho5
   by_cases hn:l=[]
   ·
    have t0:((l.length:Int) == 0)=true:=by rw [hn]; rfl
    go_wp2_with fail
    go_ret
    exact ⟨Ext.trans X1.out HX.out,.inl ⟨fun q=>q.2.1 (by first | exact hn | rfl),rfl⟩⟩
   ·
    have t0:((l.length:Int) == 0)=false:=beq_eq_false_iff_ne.2 (by have:=List.length_pos_iff.2 hn; omega)
    go_wp2_with (guard_target=wpList _ _ _ (⟨some _,Op.load _ _,_,_,_,some _⟩::_) _ _; refine Zaw 26 _ rfl ⟨gc,0,none⟩ rfl (Cfg.A c) rfl (Zat c) (Zai (HX.out.at HC.out)) ?_)
    refine (troom_c c HG.out _).mono ?_
    rintro e w3 ⟨rfl,x3⟩
    rw [HK.out]
    have HX3:=hid (Ext.trans HX.out x3)
    have HB3:=hid (HB5.out.ext x3)
    clear x3 HX HB5
    by_cases h1:P.length<=kk*108
    ·
     have t1:¬(kk:Int)*108 < (P.length:Int):=by omega
     have HFT:=hid (show Tp.fits kk l from ⟨HOK.out,hn,by rw [HP.out]; exact h1⟩)
     have ck:w3.cell? ⟨gc,1,none⟩=some (.int .i64 kk):=(Zaf (HX3.out.at HC.out)).trans ((Cfg.A1 c).trans (by rw [HK.out]))
     obtain ⟨CB,hcb,hcs,hc0⟩:=make_blocksS kk (by omega)
     have hmb:=hcb w3
     have x4:Ext w3 (w3.alloc (.cells CB 24)):=(Ext.refl w3).alloc _
     have HX4:=hid (Ext.trans HX3.out x4)
     have HB4:=hid (HB3.out.ext x4)
     have HCH:=hid (show ChAt (w3.alloc (.cells CB 24)) w3.heap.size kk P 0 from ⟨CB,Zad,hcs,fun q hq=>by rw [hc0 q hq,if_neg (by omega)]⟩)
     have HGW3:=hid (show w.heap.size<=w3.heap.size from Nat.le_trans X1.out.size HX3.out.size)
     clear x4 hcb hcs hc0 HX3
     have hp1:=HPL.out hn
     obtain ⟨pb,po,rfl⟩:∃ pb po,a5=some ⟨pb,po,none⟩:=by
      rcases HB4.out.cells with q | ⟨b,o,q,_⟩
      ·
       omega
      ·
       exact ⟨b,o,q⟩
     obtain ⟨rfl,_,hpb⟩:=HA5.out pb po rfl
     have HNE:=hid (show pb≠w3.heap.size from fun q=>by have:=HB4.out.lt pb (by omega) ⟨_,rfl,rfl⟩; have:=HB3.out.lt pb (by omega) ⟨_,rfl,rfl⟩; omega)
     clear HB3
     go_wp2_with fail
     clear hmb ck
     generalize w3.alloc (.cells CB 24)=W4 at *
     generalize w3.heap.size=g at *
     go_loopw [55,5] (fun t v wr=>∃ i o n cc:Nat,t=.int .i64 i/\i<=kk/\n=P.length - i*108/\v=.slice (some ⟨pb,o,none⟩) n cc/\n<=cc/\(n=0\/o=i*108)/\ChAt wr g kk P i/\Only (fun b=>b=g) W4 wr) (fun t _ _=>kk - (intOf t).toNat)
     case atStart=>exact ⟨0,0,P.length,c5,rfl,by omega,by omega,rfl,hc5,.inr (by omega),HCH.out,Only.refl _ _⟩
     case round =>
      clear HCH
      obtain ⟨i,o,n,cc,rfl,hi,hn',rfl,hcc,ho,hch,hon⟩:=hrel
      have HON:=hid hon
      have HNN:=hid hn'
      have HOO:=hid ho
      have HCC:=hid hcc
      clear ho hn' hcc
      by_cases hlt:i < kk
      ·
       have i0:(0:Int)<=(i:Int):=by omega
       have i1:(i:Int) < (kk:Int):=by omega
       obtain ⟨C,hC,hCs,hCc⟩:=hch
       have hbo:BytesAt wr (some ⟨pb,o,none⟩) n (P.drop (i*108)):=by
        have h5:=HB4.out.only hon fun q h1 h2=>by
         obtain ⟨z,z1,z2⟩:=h2
         cases z1
         exact fun h3=>HNE.out (z2.trans h3)
        refine ⟨by rw [List.length_drop,HNN.out],by have:=h5.small; have:=HNN.out; omega,fun y hy=>h5.byte y (List.mem_of_mem_drop hy),?_⟩
        rcases HOO.out with q | q
        ·
         exact .inl q
        refine .inr ⟨pb,o,rfl,fun j hj=>?_⟩
        have:=h5.get (i*108+j) (by have:=HNN.out; omega)
        rw [Nat.zero_add] at this
        rw [q,this,Zbe]
       have hik:i*108+108<=kk*108:=by omega
       obtain ⟨C',hcp,hC's,hC'c⟩:=copy_cells wr g (i*108) 108 108 C 24 hC cc hbo (by rw [hCs]; exact hik)
       have HCH':=hid (show ChAt (wr.setRow g C') g kk P (i+1) from ⟨C',setRow_heap _ _ _ _ _ _ hC,by rw [hC's,hCs],fun q hq=>by
        have hm0:Nat.min n 108<=n:=Nat.min_le_left n 108
        have hm1:Nat.min n 108<=108:=Nat.min_le_right n 108
        have hm2:Nat.min n 108=n\/Nat.min n 108=108:=by
         rcases Nat.le_total n 108 with z | z
         ·
          exact .inl (Nat.min_eq_left z)
         ·
          exact .inr (Nat.min_eq_right z)
        rw [hC'c q (by rw [hCs]; exact hq)]
        generalize Nat.min n 108=m at *
        have hnn:=HNN.out
        by_cases q1:i*108<=q/\q < i*108+m
        ·
         rw [if_pos q1,if_pos (by omega),Zbe,show i*108+(q - i*108)=q by omega]
        ·
         rw [if_neg q1,hCc q hq]
         by_cases q2:q < i*108
         ·
          rw [if_pos q2,if_pos (by omega)]
         ·
          rw [if_neg q2]
          by_cases q3:q < (i+1)*108
          ·
           rw [if_pos q3,nth_over (by omega)]; rfl
          ·
           rw [if_neg q3]⟩)
       have HON':=hid (show Only (fun b=>b=g) W4 (wr.setRow g C') from Only.trans hon (Zag _ _ _) fun _ _ e=>e)
       clear hC hCs hCc hbo hik hC's hC'c hon HON
       go_wp2_with fail
       go_roundw
       case rel =>
        obtain ⟨m,hm⟩:∃ m,(if 108 < (n:Int) then 108 else (n:Int)).toNat=m:=⟨_,rfl⟩
        have hm2:(n<=108/\m=n)\/(108 < n/\m=108):=by
         split at hm<;>omega
        rw [hm]
        have hcc:=HCC.out
        have hnn:=HNN.out
        have hoo:=HOO.out
        by_cases hq:cc=m
        ·
         rw [if_pos hq]
         exact ⟨i+1,o,n - m,cc - m,by go_num,by omega,by omega,rfl,by omega,by omega,HCH'.out,HON'.out⟩
        ·
         rw [if_neg hq]
         exact ⟨i+1,o+m,n - m,cc - m,by go_num,by omega,by omega,rfl,by omega,by omega,HCH'.out,HON'.out⟩
       case measure=>simp [intOf]; omega
      ·
       have i1:¬(i:Int) < (kk:Int):=by omega
       obtain rfl:i=kk:=by omega
       go_wp2_with fail
       go_ret
       exact ⟨Ext.then (Ext.trans X1.out HX4.out) hon fun q hq e=>by have e:q=g:=e; have:=HGW.out; have:=HGW3.out; omega,.inr ⟨HFT.out,g,rfl,HGW3.out,by rw [HP.out]; exact hch.blks⟩⟩
    ·
     have t1:(kk:Int)*108 < (P.length:Int):=by omega
     go_wp2_with fail
     go_ret
     exact ⟨Ext.trans X1.out HX3.out,.inl ⟨fun q=>h1 (by rw [<- HP.out]; exact q.2.2),rfl⟩⟩
end Go.Proofs.YtgjnnbomnoafcaaGreat
